/-
  The walk of answer of disk (printed by gen/mk11an.py).
-/
import Derived.Test.YteeoonoccklhmaaDo
namespace Go.Proofs.Yteeoonoccklhmaa
open Go.RowKit

theorem set3_heap {W : World} {b k : Nat} (hk : k ≠ b) (v0 v1 v2 : Value) : (((W.setCell ⟨b, 0, none⟩ v0).setCell ⟨b, 1, none⟩ v1).setCell ⟨b, 2, none⟩ v2).heap[k]? = W.heap[k]? := by
  rw [Below.heap_setCell _ _ _ _ hk, Below.heap_setCell _ _ _ _ hk, Below.heap_setCell _ _ _ _ hk]
theorem set3 {w W : World} {B b : Nat} (h : Below B w W) (hb : B ≤ b) (v0 v1 v2 : Value) : Below B w (((W.setCell ⟨b, 0, none⟩ v0).setCell ⟨b, 1, none⟩ v1).setCell ⟨b, 2, none⟩ v2) :=
  ((h.setCell hb _).setCell hb _).setCell hb _

section
variable {bs : List (List UInt8)} {t q p : Int} {xs : List UInt8}
theorem an_1 (h0 : q ≠ 0) (h1 : q ≠ 1) : Dk.answer bs (t, q, p, xs) = ((t, -1, []), bs) := by unfold Dk.answer; simp [h0, h1]
theorem an_2 (h : xs.length ≠ 0) : Dk.answer bs (t, 0, p, xs) = ((t, -1, []), bs) := by unfold Dk.answer; simp at h; simp [h]
theorem an_3 (h : xs.length ≠ 128) : Dk.answer bs (t, 1, p, xs) = ((t, -1, []), bs) := by unfold Dk.answer; simp [h]
theorem an_4 (h : xs.length = 0) (hb : Dk.blk p = false) : Dk.answer bs (t, 0, p, xs) = ((t, -2, []), bs) := by unfold Dk.answer; simp at h; simp [h, hb]
theorem an_5 (h : xs.length = 128) (hb : Dk.blk p = false) : Dk.answer bs (t, 1, p, xs) = ((t, -2, []), bs) := by unfold Dk.answer; simp [h, hb]
theorem an_6 (h : xs.length = 0) (hb : Dk.blk p = true) : Dk.answer bs (t, 0, p, xs) = ((t, 0, bs.getD p.toNat []), bs) := by unfold Dk.answer; simp at h; simp [h, hb]
theorem an_7 (h : xs.length = 128) (hb : Dk.blk p = true) : Dk.answer bs (t, 1, p, xs) = ((t, 0, []), bs.set p.toNat xs) := by unfold Dk.answer; simp [h, hb]
end

/-- What answer returns. -/
def RetAn (B : Nat) (w : World) (ub : Value) (es : List Tr) (bs : List (List UInt8)) (xs : List UInt8) (r : Dk.An × List (List UInt8)) (e : Ending) (w' : World) : Prop :=
  ∃ ul es', e = .returned (.agg #[.int .i64 r.1.1, .int .i64 r.1.2.1, ul]) ∧ w'.ownsRow w.heap.size 5 1 ul r.1.2.2.length (r.1.2.2.map eb) ∧ w'.ownsRow B 23 1 ub es'.length (es'.map et) ∧ w.grownBy w' ub.ownBlock ∧
    ((es' = es ∧ r.2 = bs) ∨ ∃ i tr, i < es.length ∧ es' = es.set i tr ∧ r.2 = bs.set i xs ∧ w'.ownsRow w.heap.size 5 1 (et tr) xs.length (xs.map eb))

set_option maxRecDepth 100000 in
set_option maxHeartbeats 8000000 in
theorem an1_w (B : Nat) (o : Bool) (ct co cp l lt la t q p : Int) {ub uc ul ux : Value} {es : List Tr} {bs : List (List UInt8)} {xs : List UInt8} {w : World} (hB : B ≤ w.heap.size) (ho : w.ownsRow B 23 1 ub es.length (es.map et))
    (hn : es.length = bs.length) (he : ∀ i (h : i < es.length) (h' : i < bs.length), Sl eb w (et es[i]) bs[i]) (hx : Sl eb w ux xs) (h160 : bs.length = 160) (hxs : xs.length ≤ 1000) (hbs : ∀ i (h : i < bs.length), bs[i].length ≤ 1000) (h0 : q ≠ 0) (h1 : q ≠ 1) :
    Calls Try.prog 44 #[.agg #[ub, .bool o, .int .i64 ct, .int .i64 co, .int .i64 cp, uc, .int .i64 l, .int .i64 lt, .int .i64 la, ul], .agg #[.int .i64 t, .int .i64 q, .int .i64 p, ux]] w (RetAn B w ub es bs xs (Dk.answer bs (t, q, p, xs))) := by
  obtain ⟨aub, cub, hub⟩ := own_slice ho
  obtain ⟨ax, cx, hux, -⟩ := id hx
  subst hub hux
  obtain ⟨W0, hW0⟩ : ∃ W0, W0 = ((w.alloc (.cells #[.slice aub es.length cub, .bool o, .int .i64 ct, .int .i64 co, .int .i64 cp, uc, .int .i64 l, .int .i64 lt, .int .i64 la, ul] 39 (0, 0))).alloc (.cells #[.int .i64 t, .int .i64 q, .int .i64 p, .slice ax xs.length cx] 34 (0, 0))).alloc (.cells #[.int .i64 0, .int .i64 0, .slice none 0 0] 35 (0, 0)) := ⟨_, rfl⟩
  obtain ⟨W1, hW1⟩ : ∃ W1, W1 = W0.alloc (.cells #[.int .i64 t, .int .i64 0, .slice none 0 0] 35 (0, 0)) := ⟨_, rfl⟩
  have hsz0 : W0.heap.size = w.heap.size + 1 + 1 + 1 := by rw [hW0]; simp
  have hK : Bk W1 w.heap.size 39 [.slice aub es.length cub, .bool o, .int .i64 ct, .int .i64 co, .int .i64 cp, uc, .int .i64 l, .int .i64 lt, .int .i64 la, ul] := by rw [hW1, hW0]; exact (((Bk.new w _ [.slice aub es.length cub, .bool o, .int .i64 ct, .int .i64 co, .int .i64 cp, uc, .int .i64 l, .int .i64 lt, .int .i64 la, ul]).alloc _).alloc _).alloc _
  have hC : Bk W1 (w.heap.size + 1) 34 [.int .i64 t, .int .i64 q, .int .i64 p, .slice ax xs.length cx] := by rw [hW1, hW0]; exact ((Bk.newAt _ _ [.int .i64 t, .int .i64 q, .int .i64 p, .slice ax xs.length cx] (by simp)).alloc _).alloc _
  have hC0 : Bk W0 (w.heap.size + 1) 34 [.int .i64 t, .int .i64 q, .int .i64 p, .slice ax xs.length cx] := by rw [hW0]; exact (Bk.newAt _ _ [.int .i64 t, .int .i64 q, .int .i64 p, .slice ax xs.length cx] (by simp)).alloc _
  have hR : Bk W1 (w.heap.size + 1 + 1) 35 [.int .i64 0, .int .i64 0, .slice none 0 0] := by rw [hW1, hW0]; exact (Bk.newAt _ _ [.int .i64 0, .int .i64 0, .slice none 0 0] (by simp)).alloc _
  have hY : Bk W1 W0.heap.size 35 [.int .i64 t, .int .i64 0, .slice none 0 0] := by rw [hW1]; exact Bk.new W0 _ [.int .i64 t, .int .i64 0, .slice none 0 0]
  have hL : Below w.heap.size w W1 := by rw [hW1, hW0]; exact (((low_alloc _ _).alloc (by simp) _).alloc (by simp; omega) _).alloc (by simp; omega) _
  have hsz : W1.heap.size = w.heap.size + 1 + 1 + 1 + 1 := by rw [hW1]; simp [hsz0]
  have hwW : w.heap.size + 1 + 1 < W0.heap.size := by omega
  have HO := Lib.hid ho
  have HL := Lib.hid hL
  have HR := Lib.hid hR
  have HY := Lib.hid hY
  have HSZ := Lib.hid hsz
  have HC := Lib.hid hC
  have HK := Lib.hid hK
  have HX := Lib.hid hx
  have HE := Lib.hid he
  have HN := Lib.hid hn
  have H160 := Lib.hid h160
  have HXS := Lib.hid hxs
  have HBS := Lib.hid hbs
  have HBB := Lib.hid hB
  have c1 := hC0.cell 0
  clear ho hn he hx h160 hxs hbs hK hC0 hR hY hL hC hB hsz0 hsz
  have HW0 := Lib.hid hW0
  have HW1 := Lib.hid hW1
  clear hW0 hW1
  rw [an_1 h0 h1]
  have e0 : (q != 0) = true := by simpa using h0
  have e1 : (q != 1) = true := by simpa using h1
  clear h0 h1
  go_enter Try.func44, Try.ntmps44
  go_upto_region 1 with fail
  rw [← HW0.out]
  go_upto_region 3 with fail
  rw [← HW1.out]
  clear c1
  obtain ⟨c0, c1, c2, c3⟩ : W1.cell? ⟨w.heap.size + 1, 0, none⟩ = some (.int .i64 t) ∧ W1.cell? ⟨w.heap.size + 1, 1, none⟩ = some (.int .i64 q) ∧ W1.cell? ⟨w.heap.size + 1, 2, none⟩ = some (.int .i64 p) ∧ W1.cell? ⟨w.heap.size + 1, 3, none⟩ = some (.slice ax xs.length cx) := ⟨HC.out.cell 0, HC.out.cell 1, HC.out.cell 2, HC.out.cell 3⟩
  obtain ⟨y0, y1, y2, gy1, gy2⟩ : W1.cell? ⟨W0.heap.size, 0, none⟩ = some (.int .i64 t) ∧ W1.cell? ⟨W0.heap.size, 1, none⟩ = some (.int .i64 0) ∧ W1.cell? ⟨W0.heap.size, 2, none⟩ = some (.slice none 0 0) ∧ W1.frozen? ⟨W0.heap.size, 1, none⟩ = false ∧ W1.frozen? ⟨W0.heap.size, 2, none⟩ = false := ⟨HY.out.cell 0, HY.out.cell 1, HY.out.cell 2, HY.out.frozen 1, HY.out.frozen 2⟩
  obtain ⟨r0, r1, r2, z0, z1, z2⟩ : W1.cell? ⟨w.heap.size + 1 + 1, 0, none⟩ = some (.int .i64 0) ∧ W1.cell? ⟨w.heap.size + 1 + 1, 1, none⟩ = some (.int .i64 0) ∧ W1.cell? ⟨w.heap.size + 1 + 1, 2, none⟩ = some (.slice none 0 0) ∧ W1.frozen? ⟨w.heap.size + 1 + 1, 0, none⟩ = false ∧ W1.frozen? ⟨w.heap.size + 1 + 1, 1, none⟩ = false ∧ W1.frozen? ⟨w.heap.size + 1 + 1, 2, none⟩ = false := ⟨HR.out.cell 0, HR.out.cell 1, HR.out.cell 2, HR.out.frozen 0, HR.out.frozen 1, HR.out.frozen 2⟩
  go_wp2_with fail
  have hl1 : Below w.heap.size w (W1.setCell ⟨W0.heap.size, 1, none⟩ (.int .i64 (-1))) := HL.out.setCell (by show w.heap.size ≤ W0.heap.size; omega) _
  have hfin := set3 (b := w.heap.size + 1 + 1) hl1 (by omega) (.int .i64 t) (.int .i64 (-1)) (.slice none 0 0)
  have hown := own_keep HO.out fun k hk => hfin.block k (HO.out.lt k hk).2
  exact bodyPost_ret (v := .agg #[.int .i64 t, .int .i64 (-1), .slice none 0 0]) (by simp [results, Try.results44, go_sem, r0, r1, r2]) rfl ⟨_, es, rfl, World.ownsRow_nil _ _ _ _, hown, grown_of_below hfin _, .inl ⟨rfl, rfl⟩⟩

set_option maxRecDepth 100000 in
set_option maxHeartbeats 8000000 in
theorem an2_w (B : Nat) (o : Bool) (ct co cp l lt la t q p : Int) {ub uc ul ux : Value} {es : List Tr} {bs : List (List UInt8)} {xs : List UInt8} {w : World} (hB : B ≤ w.heap.size) (ho : w.ownsRow B 23 1 ub es.length (es.map et))
    (hn : es.length = bs.length) (he : ∀ i (h : i < es.length) (h' : i < bs.length), Sl eb w (et es[i]) bs[i]) (hx : Sl eb w ux xs) (h160 : bs.length = 160) (hxs : xs.length ≤ 1000) (hbs : ∀ i (h : i < bs.length), bs[i].length ≤ 1000) (h0 : q = 0) (h : xs.length ≠ 0) :
    Calls Try.prog 44 #[.agg #[ub, .bool o, .int .i64 ct, .int .i64 co, .int .i64 cp, uc, .int .i64 l, .int .i64 lt, .int .i64 la, ul], .agg #[.int .i64 t, .int .i64 q, .int .i64 p, ux]] w (RetAn B w ub es bs xs (Dk.answer bs (t, q, p, xs))) := by
  obtain ⟨aub, cub, hub⟩ := own_slice ho
  obtain ⟨ax, cx, hux, -⟩ := id hx
  subst hub hux
  obtain ⟨W0, hW0⟩ : ∃ W0, W0 = ((w.alloc (.cells #[.slice aub es.length cub, .bool o, .int .i64 ct, .int .i64 co, .int .i64 cp, uc, .int .i64 l, .int .i64 lt, .int .i64 la, ul] 39 (0, 0))).alloc (.cells #[.int .i64 t, .int .i64 q, .int .i64 p, .slice ax xs.length cx] 34 (0, 0))).alloc (.cells #[.int .i64 0, .int .i64 0, .slice none 0 0] 35 (0, 0)) := ⟨_, rfl⟩
  obtain ⟨W1, hW1⟩ : ∃ W1, W1 = W0.alloc (.cells #[.int .i64 t, .int .i64 0, .slice none 0 0] 35 (0, 0)) := ⟨_, rfl⟩
  have hsz0 : W0.heap.size = w.heap.size + 1 + 1 + 1 := by rw [hW0]; simp
  have hK : Bk W1 w.heap.size 39 [.slice aub es.length cub, .bool o, .int .i64 ct, .int .i64 co, .int .i64 cp, uc, .int .i64 l, .int .i64 lt, .int .i64 la, ul] := by rw [hW1, hW0]; exact (((Bk.new w _ [.slice aub es.length cub, .bool o, .int .i64 ct, .int .i64 co, .int .i64 cp, uc, .int .i64 l, .int .i64 lt, .int .i64 la, ul]).alloc _).alloc _).alloc _
  have hC : Bk W1 (w.heap.size + 1) 34 [.int .i64 t, .int .i64 q, .int .i64 p, .slice ax xs.length cx] := by rw [hW1, hW0]; exact ((Bk.newAt _ _ [.int .i64 t, .int .i64 q, .int .i64 p, .slice ax xs.length cx] (by simp)).alloc _).alloc _
  have hC0 : Bk W0 (w.heap.size + 1) 34 [.int .i64 t, .int .i64 q, .int .i64 p, .slice ax xs.length cx] := by rw [hW0]; exact (Bk.newAt _ _ [.int .i64 t, .int .i64 q, .int .i64 p, .slice ax xs.length cx] (by simp)).alloc _
  have hR : Bk W1 (w.heap.size + 1 + 1) 35 [.int .i64 0, .int .i64 0, .slice none 0 0] := by rw [hW1, hW0]; exact (Bk.newAt _ _ [.int .i64 0, .int .i64 0, .slice none 0 0] (by simp)).alloc _
  have hY : Bk W1 W0.heap.size 35 [.int .i64 t, .int .i64 0, .slice none 0 0] := by rw [hW1]; exact Bk.new W0 _ [.int .i64 t, .int .i64 0, .slice none 0 0]
  have hL : Below w.heap.size w W1 := by rw [hW1, hW0]; exact (((low_alloc _ _).alloc (by simp) _).alloc (by simp; omega) _).alloc (by simp; omega) _
  have hsz : W1.heap.size = w.heap.size + 1 + 1 + 1 + 1 := by rw [hW1]; simp [hsz0]
  have hwW : w.heap.size + 1 + 1 < W0.heap.size := by omega
  have HO := Lib.hid ho
  have HL := Lib.hid hL
  have HR := Lib.hid hR
  have HY := Lib.hid hY
  have HSZ := Lib.hid hsz
  have HC := Lib.hid hC
  have HK := Lib.hid hK
  have HX := Lib.hid hx
  have HE := Lib.hid he
  have HN := Lib.hid hn
  have H160 := Lib.hid h160
  have HXS := Lib.hid hxs
  have HBS := Lib.hid hbs
  have HBB := Lib.hid hB
  have c1 := hC0.cell 0
  clear ho hn he hx h160 hxs hbs hK hC0 hR hY hL hC hB hsz0 hsz
  have HW0 := Lib.hid hW0
  have HW1 := Lib.hid hW1
  clear hW0 hW1
  subst h0
  rw [an_2 h]
  have e1 : ((xs.length : Int) != 0) = true := by rw [bne_iff_ne]; omega
  clear h
  go_enter Try.func44, Try.ntmps44
  go_upto_region 1 with fail
  rw [← HW0.out]
  go_upto_region 3 with fail
  rw [← HW1.out]
  clear c1
  obtain ⟨c0, c1, c2, c3⟩ : W1.cell? ⟨w.heap.size + 1, 0, none⟩ = some (.int .i64 t) ∧ W1.cell? ⟨w.heap.size + 1, 1, none⟩ = some (.int .i64 0) ∧ W1.cell? ⟨w.heap.size + 1, 2, none⟩ = some (.int .i64 p) ∧ W1.cell? ⟨w.heap.size + 1, 3, none⟩ = some (.slice ax xs.length cx) := ⟨HC.out.cell 0, HC.out.cell 1, HC.out.cell 2, HC.out.cell 3⟩
  obtain ⟨y0, y1, y2, gy1, gy2⟩ : W1.cell? ⟨W0.heap.size, 0, none⟩ = some (.int .i64 t) ∧ W1.cell? ⟨W0.heap.size, 1, none⟩ = some (.int .i64 0) ∧ W1.cell? ⟨W0.heap.size, 2, none⟩ = some (.slice none 0 0) ∧ W1.frozen? ⟨W0.heap.size, 1, none⟩ = false ∧ W1.frozen? ⟨W0.heap.size, 2, none⟩ = false := ⟨HY.out.cell 0, HY.out.cell 1, HY.out.cell 2, HY.out.frozen 1, HY.out.frozen 2⟩
  obtain ⟨r0, r1, r2, z0, z1, z2⟩ : W1.cell? ⟨w.heap.size + 1 + 1, 0, none⟩ = some (.int .i64 0) ∧ W1.cell? ⟨w.heap.size + 1 + 1, 1, none⟩ = some (.int .i64 0) ∧ W1.cell? ⟨w.heap.size + 1 + 1, 2, none⟩ = some (.slice none 0 0) ∧ W1.frozen? ⟨w.heap.size + 1 + 1, 0, none⟩ = false ∧ W1.frozen? ⟨w.heap.size + 1 + 1, 1, none⟩ = false ∧ W1.frozen? ⟨w.heap.size + 1 + 1, 2, none⟩ = false := ⟨HR.out.cell 0, HR.out.cell 1, HR.out.cell 2, HR.out.frozen 0, HR.out.frozen 1, HR.out.frozen 2⟩
  go_wp2_with fail
  have hl1 : Below w.heap.size w (W1.setCell ⟨W0.heap.size, 1, none⟩ (.int .i64 (-1))) := HL.out.setCell (by show w.heap.size ≤ W0.heap.size; omega) _
  have hfin := set3 (b := w.heap.size + 1 + 1) hl1 (by omega) (.int .i64 t) (.int .i64 (-1)) (.slice none 0 0)
  have hown := own_keep HO.out fun k hk => hfin.block k (HO.out.lt k hk).2
  exact bodyPost_ret (v := .agg #[.int .i64 t, .int .i64 (-1), .slice none 0 0]) (by simp [results, Try.results44, go_sem, r0, r1, r2]) rfl ⟨_, es, rfl, World.ownsRow_nil _ _ _ _, hown, grown_of_below hfin _, .inl ⟨rfl, rfl⟩⟩

set_option maxRecDepth 100000 in
set_option maxHeartbeats 8000000 in
theorem an3_w (B : Nat) (o : Bool) (ct co cp l lt la t q p : Int) {ub uc ul ux : Value} {es : List Tr} {bs : List (List UInt8)} {xs : List UInt8} {w : World} (hB : B ≤ w.heap.size) (ho : w.ownsRow B 23 1 ub es.length (es.map et))
    (hn : es.length = bs.length) (he : ∀ i (h : i < es.length) (h' : i < bs.length), Sl eb w (et es[i]) bs[i]) (hx : Sl eb w ux xs) (h160 : bs.length = 160) (hxs : xs.length ≤ 1000) (hbs : ∀ i (h : i < bs.length), bs[i].length ≤ 1000) (h0 : q = 1) (h : xs.length ≠ 128) :
    Calls Try.prog 44 #[.agg #[ub, .bool o, .int .i64 ct, .int .i64 co, .int .i64 cp, uc, .int .i64 l, .int .i64 lt, .int .i64 la, ul], .agg #[.int .i64 t, .int .i64 q, .int .i64 p, ux]] w (RetAn B w ub es bs xs (Dk.answer bs (t, q, p, xs))) := by
  obtain ⟨aub, cub, hub⟩ := own_slice ho
  obtain ⟨ax, cx, hux, -⟩ := id hx
  subst hub hux
  obtain ⟨W0, hW0⟩ : ∃ W0, W0 = ((w.alloc (.cells #[.slice aub es.length cub, .bool o, .int .i64 ct, .int .i64 co, .int .i64 cp, uc, .int .i64 l, .int .i64 lt, .int .i64 la, ul] 39 (0, 0))).alloc (.cells #[.int .i64 t, .int .i64 q, .int .i64 p, .slice ax xs.length cx] 34 (0, 0))).alloc (.cells #[.int .i64 0, .int .i64 0, .slice none 0 0] 35 (0, 0)) := ⟨_, rfl⟩
  obtain ⟨W1, hW1⟩ : ∃ W1, W1 = W0.alloc (.cells #[.int .i64 t, .int .i64 0, .slice none 0 0] 35 (0, 0)) := ⟨_, rfl⟩
  have hsz0 : W0.heap.size = w.heap.size + 1 + 1 + 1 := by rw [hW0]; simp
  have hK : Bk W1 w.heap.size 39 [.slice aub es.length cub, .bool o, .int .i64 ct, .int .i64 co, .int .i64 cp, uc, .int .i64 l, .int .i64 lt, .int .i64 la, ul] := by rw [hW1, hW0]; exact (((Bk.new w _ [.slice aub es.length cub, .bool o, .int .i64 ct, .int .i64 co, .int .i64 cp, uc, .int .i64 l, .int .i64 lt, .int .i64 la, ul]).alloc _).alloc _).alloc _
  have hC : Bk W1 (w.heap.size + 1) 34 [.int .i64 t, .int .i64 q, .int .i64 p, .slice ax xs.length cx] := by rw [hW1, hW0]; exact ((Bk.newAt _ _ [.int .i64 t, .int .i64 q, .int .i64 p, .slice ax xs.length cx] (by simp)).alloc _).alloc _
  have hC0 : Bk W0 (w.heap.size + 1) 34 [.int .i64 t, .int .i64 q, .int .i64 p, .slice ax xs.length cx] := by rw [hW0]; exact (Bk.newAt _ _ [.int .i64 t, .int .i64 q, .int .i64 p, .slice ax xs.length cx] (by simp)).alloc _
  have hR : Bk W1 (w.heap.size + 1 + 1) 35 [.int .i64 0, .int .i64 0, .slice none 0 0] := by rw [hW1, hW0]; exact (Bk.newAt _ _ [.int .i64 0, .int .i64 0, .slice none 0 0] (by simp)).alloc _
  have hY : Bk W1 W0.heap.size 35 [.int .i64 t, .int .i64 0, .slice none 0 0] := by rw [hW1]; exact Bk.new W0 _ [.int .i64 t, .int .i64 0, .slice none 0 0]
  have hL : Below w.heap.size w W1 := by rw [hW1, hW0]; exact (((low_alloc _ _).alloc (by simp) _).alloc (by simp; omega) _).alloc (by simp; omega) _
  have hsz : W1.heap.size = w.heap.size + 1 + 1 + 1 + 1 := by rw [hW1]; simp [hsz0]
  have hwW : w.heap.size + 1 + 1 < W0.heap.size := by omega
  have HO := Lib.hid ho
  have HL := Lib.hid hL
  have HR := Lib.hid hR
  have HY := Lib.hid hY
  have HSZ := Lib.hid hsz
  have HC := Lib.hid hC
  have HK := Lib.hid hK
  have HX := Lib.hid hx
  have HE := Lib.hid he
  have HN := Lib.hid hn
  have H160 := Lib.hid h160
  have HXS := Lib.hid hxs
  have HBS := Lib.hid hbs
  have HBB := Lib.hid hB
  have c1 := hC0.cell 0
  clear ho hn he hx h160 hxs hbs hK hC0 hR hY hL hC hB hsz0 hsz
  have HW0 := Lib.hid hW0
  have HW1 := Lib.hid hW1
  clear hW0 hW1
  subst h0
  rw [an_3 h]
  have e1 : ((xs.length : Int) != 128) = true := by rw [bne_iff_ne]; omega
  clear h
  go_enter Try.func44, Try.ntmps44
  go_upto_region 1 with fail
  rw [← HW0.out]
  go_upto_region 3 with fail
  rw [← HW1.out]
  clear c1
  obtain ⟨c0, c1, c2, c3⟩ : W1.cell? ⟨w.heap.size + 1, 0, none⟩ = some (.int .i64 t) ∧ W1.cell? ⟨w.heap.size + 1, 1, none⟩ = some (.int .i64 1) ∧ W1.cell? ⟨w.heap.size + 1, 2, none⟩ = some (.int .i64 p) ∧ W1.cell? ⟨w.heap.size + 1, 3, none⟩ = some (.slice ax xs.length cx) := ⟨HC.out.cell 0, HC.out.cell 1, HC.out.cell 2, HC.out.cell 3⟩
  obtain ⟨y0, y1, y2, gy1, gy2⟩ : W1.cell? ⟨W0.heap.size, 0, none⟩ = some (.int .i64 t) ∧ W1.cell? ⟨W0.heap.size, 1, none⟩ = some (.int .i64 0) ∧ W1.cell? ⟨W0.heap.size, 2, none⟩ = some (.slice none 0 0) ∧ W1.frozen? ⟨W0.heap.size, 1, none⟩ = false ∧ W1.frozen? ⟨W0.heap.size, 2, none⟩ = false := ⟨HY.out.cell 0, HY.out.cell 1, HY.out.cell 2, HY.out.frozen 1, HY.out.frozen 2⟩
  obtain ⟨r0, r1, r2, z0, z1, z2⟩ : W1.cell? ⟨w.heap.size + 1 + 1, 0, none⟩ = some (.int .i64 0) ∧ W1.cell? ⟨w.heap.size + 1 + 1, 1, none⟩ = some (.int .i64 0) ∧ W1.cell? ⟨w.heap.size + 1 + 1, 2, none⟩ = some (.slice none 0 0) ∧ W1.frozen? ⟨w.heap.size + 1 + 1, 0, none⟩ = false ∧ W1.frozen? ⟨w.heap.size + 1 + 1, 1, none⟩ = false ∧ W1.frozen? ⟨w.heap.size + 1 + 1, 2, none⟩ = false := ⟨HR.out.cell 0, HR.out.cell 1, HR.out.cell 2, HR.out.frozen 0, HR.out.frozen 1, HR.out.frozen 2⟩
  go_wp2_with fail
  have hl1 : Below w.heap.size w (W1.setCell ⟨W0.heap.size, 1, none⟩ (.int .i64 (-1))) := HL.out.setCell (by show w.heap.size ≤ W0.heap.size; omega) _
  have hfin := set3 (b := w.heap.size + 1 + 1) hl1 (by omega) (.int .i64 t) (.int .i64 (-1)) (.slice none 0 0)
  have hown := own_keep HO.out fun k hk => hfin.block k (HO.out.lt k hk).2
  exact bodyPost_ret (v := .agg #[.int .i64 t, .int .i64 (-1), .slice none 0 0]) (by simp [results, Try.results44, go_sem, r0, r1, r2]) rfl ⟨_, es, rfl, World.ownsRow_nil _ _ _ _, hown, grown_of_below hfin _, .inl ⟨rfl, rfl⟩⟩

set_option maxRecDepth 100000 in
set_option maxHeartbeats 8000000 in
theorem an4_w (B : Nat) (o : Bool) (ct co cp l lt la t q p : Int) {ub uc ul ux : Value} {es : List Tr} {bs : List (List UInt8)} {xs : List UInt8} {w : World} (hB : B ≤ w.heap.size) (ho : w.ownsRow B 23 1 ub es.length (es.map et))
    (hn : es.length = bs.length) (he : ∀ i (h : i < es.length) (h' : i < bs.length), Sl eb w (et es[i]) bs[i]) (hx : Sl eb w ux xs) (h160 : bs.length = 160) (hxs : xs.length ≤ 1000) (hbs : ∀ i (h : i < bs.length), bs[i].length ≤ 1000) (h0 : q = 0) (h : xs.length = 0) (hb : Dk.blk p = false) :
    Calls Try.prog 44 #[.agg #[ub, .bool o, .int .i64 ct, .int .i64 co, .int .i64 cp, uc, .int .i64 l, .int .i64 lt, .int .i64 la, ul], .agg #[.int .i64 t, .int .i64 q, .int .i64 p, ux]] w (RetAn B w ub es bs xs (Dk.answer bs (t, q, p, xs))) := by
  obtain ⟨aub, cub, hub⟩ := own_slice ho
  obtain ⟨ax, cx, hux, -⟩ := id hx
  subst hub hux
  obtain ⟨W0, hW0⟩ : ∃ W0, W0 = ((w.alloc (.cells #[.slice aub es.length cub, .bool o, .int .i64 ct, .int .i64 co, .int .i64 cp, uc, .int .i64 l, .int .i64 lt, .int .i64 la, ul] 39 (0, 0))).alloc (.cells #[.int .i64 t, .int .i64 q, .int .i64 p, .slice ax xs.length cx] 34 (0, 0))).alloc (.cells #[.int .i64 0, .int .i64 0, .slice none 0 0] 35 (0, 0)) := ⟨_, rfl⟩
  obtain ⟨W1, hW1⟩ : ∃ W1, W1 = W0.alloc (.cells #[.int .i64 t, .int .i64 0, .slice none 0 0] 35 (0, 0)) := ⟨_, rfl⟩
  have hsz0 : W0.heap.size = w.heap.size + 1 + 1 + 1 := by rw [hW0]; simp
  have hK : Bk W1 w.heap.size 39 [.slice aub es.length cub, .bool o, .int .i64 ct, .int .i64 co, .int .i64 cp, uc, .int .i64 l, .int .i64 lt, .int .i64 la, ul] := by rw [hW1, hW0]; exact (((Bk.new w _ [.slice aub es.length cub, .bool o, .int .i64 ct, .int .i64 co, .int .i64 cp, uc, .int .i64 l, .int .i64 lt, .int .i64 la, ul]).alloc _).alloc _).alloc _
  have hC : Bk W1 (w.heap.size + 1) 34 [.int .i64 t, .int .i64 q, .int .i64 p, .slice ax xs.length cx] := by rw [hW1, hW0]; exact ((Bk.newAt _ _ [.int .i64 t, .int .i64 q, .int .i64 p, .slice ax xs.length cx] (by simp)).alloc _).alloc _
  have hC0 : Bk W0 (w.heap.size + 1) 34 [.int .i64 t, .int .i64 q, .int .i64 p, .slice ax xs.length cx] := by rw [hW0]; exact (Bk.newAt _ _ [.int .i64 t, .int .i64 q, .int .i64 p, .slice ax xs.length cx] (by simp)).alloc _
  have hR : Bk W1 (w.heap.size + 1 + 1) 35 [.int .i64 0, .int .i64 0, .slice none 0 0] := by rw [hW1, hW0]; exact (Bk.newAt _ _ [.int .i64 0, .int .i64 0, .slice none 0 0] (by simp)).alloc _
  have hY : Bk W1 W0.heap.size 35 [.int .i64 t, .int .i64 0, .slice none 0 0] := by rw [hW1]; exact Bk.new W0 _ [.int .i64 t, .int .i64 0, .slice none 0 0]
  have hL : Below w.heap.size w W1 := by rw [hW1, hW0]; exact (((low_alloc _ _).alloc (by simp) _).alloc (by simp; omega) _).alloc (by simp; omega) _
  have hsz : W1.heap.size = w.heap.size + 1 + 1 + 1 + 1 := by rw [hW1]; simp [hsz0]
  have hwW : w.heap.size + 1 + 1 < W0.heap.size := by omega
  have HO := Lib.hid ho
  have HL := Lib.hid hL
  have HR := Lib.hid hR
  have HY := Lib.hid hY
  have HSZ := Lib.hid hsz
  have HC := Lib.hid hC
  have HK := Lib.hid hK
  have HX := Lib.hid hx
  have HE := Lib.hid he
  have HN := Lib.hid hn
  have H160 := Lib.hid h160
  have HXS := Lib.hid hxs
  have HBS := Lib.hid hbs
  have HBB := Lib.hid hB
  have c1 := hC0.cell 0
  clear ho hn he hx h160 hxs hbs hK hC0 hR hY hL hC hB hsz0 hsz
  have HW0 := Lib.hid hW0
  have HW1 := Lib.hid hW1
  clear hW0 hW1
  subst h0
  rw [an_4 h hb]
  have e1 : ((xs.length : Int) != 0) = false := by rw [h]; rfl
  have HB := fun W => block_w p W
  rw [hb] at HB
  clear h hb
  go_enter Try.func44, Try.ntmps44
  go_upto_region 1 with fail
  rw [← HW0.out]
  go_upto_region 3 with fail
  rw [← HW1.out]
  clear c1
  obtain ⟨c0, c1, c2, c3⟩ : W1.cell? ⟨w.heap.size + 1, 0, none⟩ = some (.int .i64 t) ∧ W1.cell? ⟨w.heap.size + 1, 1, none⟩ = some (.int .i64 0) ∧ W1.cell? ⟨w.heap.size + 1, 2, none⟩ = some (.int .i64 p) ∧ W1.cell? ⟨w.heap.size + 1, 3, none⟩ = some (.slice ax xs.length cx) := ⟨HC.out.cell 0, HC.out.cell 1, HC.out.cell 2, HC.out.cell 3⟩
  obtain ⟨y0, y1, y2, gy1, gy2⟩ : W1.cell? ⟨W0.heap.size, 0, none⟩ = some (.int .i64 t) ∧ W1.cell? ⟨W0.heap.size, 1, none⟩ = some (.int .i64 0) ∧ W1.cell? ⟨W0.heap.size, 2, none⟩ = some (.slice none 0 0) ∧ W1.frozen? ⟨W0.heap.size, 1, none⟩ = false ∧ W1.frozen? ⟨W0.heap.size, 2, none⟩ = false := ⟨HY.out.cell 0, HY.out.cell 1, HY.out.cell 2, HY.out.frozen 1, HY.out.frozen 2⟩
  obtain ⟨r0, r1, r2, z0, z1, z2⟩ : W1.cell? ⟨w.heap.size + 1 + 1, 0, none⟩ = some (.int .i64 0) ∧ W1.cell? ⟨w.heap.size + 1 + 1, 1, none⟩ = some (.int .i64 0) ∧ W1.cell? ⟨w.heap.size + 1 + 1, 2, none⟩ = some (.slice none 0 0) ∧ W1.frozen? ⟨w.heap.size + 1 + 1, 0, none⟩ = false ∧ W1.frozen? ⟨w.heap.size + 1 + 1, 1, none⟩ = false ∧ W1.frozen? ⟨w.heap.size + 1 + 1, 2, none⟩ = false := ⟨HR.out.cell 0, HR.out.cell 1, HR.out.cell 2, HR.out.frozen 0, HR.out.frozen 1, HR.out.frozen 2⟩
  go_wp2_with (go_at_call 31; (with_reducible refine (HB _).mono ?_); rintro e wb ⟨rfl, rfl⟩)
  have hl1 : Below w.heap.size w (W1.setCell ⟨W0.heap.size, 1, none⟩ (.int .i64 (-2))) := HL.out.setCell (by show w.heap.size ≤ W0.heap.size; omega) _
  have hfin := set3 (b := w.heap.size + 1 + 1) hl1 (by omega) (.int .i64 t) (.int .i64 (-2)) (.slice none 0 0)
  have hown := own_keep HO.out fun k hk => hfin.block k (HO.out.lt k hk).2
  exact bodyPost_ret (v := .agg #[.int .i64 t, .int .i64 (-2), .slice none 0 0]) (by simp [results, Try.results44, go_sem, r0, r1, r2]) rfl ⟨_, es, rfl, World.ownsRow_nil _ _ _ _, hown, grown_of_below hfin _, .inl ⟨rfl, rfl⟩⟩

set_option maxRecDepth 100000 in
set_option maxHeartbeats 8000000 in
theorem an5_w (B : Nat) (o : Bool) (ct co cp l lt la t q p : Int) {ub uc ul ux : Value} {es : List Tr} {bs : List (List UInt8)} {xs : List UInt8} {w : World} (hB : B ≤ w.heap.size) (ho : w.ownsRow B 23 1 ub es.length (es.map et))
    (hn : es.length = bs.length) (he : ∀ i (h : i < es.length) (h' : i < bs.length), Sl eb w (et es[i]) bs[i]) (hx : Sl eb w ux xs) (h160 : bs.length = 160) (hxs : xs.length ≤ 1000) (hbs : ∀ i (h : i < bs.length), bs[i].length ≤ 1000) (h0 : q = 1) (h : xs.length = 128) (hb : Dk.blk p = false) :
    Calls Try.prog 44 #[.agg #[ub, .bool o, .int .i64 ct, .int .i64 co, .int .i64 cp, uc, .int .i64 l, .int .i64 lt, .int .i64 la, ul], .agg #[.int .i64 t, .int .i64 q, .int .i64 p, ux]] w (RetAn B w ub es bs xs (Dk.answer bs (t, q, p, xs))) := by
  obtain ⟨aub, cub, hub⟩ := own_slice ho
  obtain ⟨ax, cx, hux, -⟩ := id hx
  subst hub hux
  obtain ⟨W0, hW0⟩ : ∃ W0, W0 = ((w.alloc (.cells #[.slice aub es.length cub, .bool o, .int .i64 ct, .int .i64 co, .int .i64 cp, uc, .int .i64 l, .int .i64 lt, .int .i64 la, ul] 39 (0, 0))).alloc (.cells #[.int .i64 t, .int .i64 q, .int .i64 p, .slice ax xs.length cx] 34 (0, 0))).alloc (.cells #[.int .i64 0, .int .i64 0, .slice none 0 0] 35 (0, 0)) := ⟨_, rfl⟩
  obtain ⟨W1, hW1⟩ : ∃ W1, W1 = W0.alloc (.cells #[.int .i64 t, .int .i64 0, .slice none 0 0] 35 (0, 0)) := ⟨_, rfl⟩
  have hsz0 : W0.heap.size = w.heap.size + 1 + 1 + 1 := by rw [hW0]; simp
  have hK : Bk W1 w.heap.size 39 [.slice aub es.length cub, .bool o, .int .i64 ct, .int .i64 co, .int .i64 cp, uc, .int .i64 l, .int .i64 lt, .int .i64 la, ul] := by rw [hW1, hW0]; exact (((Bk.new w _ [.slice aub es.length cub, .bool o, .int .i64 ct, .int .i64 co, .int .i64 cp, uc, .int .i64 l, .int .i64 lt, .int .i64 la, ul]).alloc _).alloc _).alloc _
  have hC : Bk W1 (w.heap.size + 1) 34 [.int .i64 t, .int .i64 q, .int .i64 p, .slice ax xs.length cx] := by rw [hW1, hW0]; exact ((Bk.newAt _ _ [.int .i64 t, .int .i64 q, .int .i64 p, .slice ax xs.length cx] (by simp)).alloc _).alloc _
  have hC0 : Bk W0 (w.heap.size + 1) 34 [.int .i64 t, .int .i64 q, .int .i64 p, .slice ax xs.length cx] := by rw [hW0]; exact (Bk.newAt _ _ [.int .i64 t, .int .i64 q, .int .i64 p, .slice ax xs.length cx] (by simp)).alloc _
  have hR : Bk W1 (w.heap.size + 1 + 1) 35 [.int .i64 0, .int .i64 0, .slice none 0 0] := by rw [hW1, hW0]; exact (Bk.newAt _ _ [.int .i64 0, .int .i64 0, .slice none 0 0] (by simp)).alloc _
  have hY : Bk W1 W0.heap.size 35 [.int .i64 t, .int .i64 0, .slice none 0 0] := by rw [hW1]; exact Bk.new W0 _ [.int .i64 t, .int .i64 0, .slice none 0 0]
  have hL : Below w.heap.size w W1 := by rw [hW1, hW0]; exact (((low_alloc _ _).alloc (by simp) _).alloc (by simp; omega) _).alloc (by simp; omega) _
  have hsz : W1.heap.size = w.heap.size + 1 + 1 + 1 + 1 := by rw [hW1]; simp [hsz0]
  have hwW : w.heap.size + 1 + 1 < W0.heap.size := by omega
  have HO := Lib.hid ho
  have HL := Lib.hid hL
  have HR := Lib.hid hR
  have HY := Lib.hid hY
  have HSZ := Lib.hid hsz
  have HC := Lib.hid hC
  have HK := Lib.hid hK
  have HX := Lib.hid hx
  have HE := Lib.hid he
  have HN := Lib.hid hn
  have H160 := Lib.hid h160
  have HXS := Lib.hid hxs
  have HBS := Lib.hid hbs
  have HBB := Lib.hid hB
  have c1 := hC0.cell 0
  clear ho hn he hx h160 hxs hbs hK hC0 hR hY hL hC hB hsz0 hsz
  have HW0 := Lib.hid hW0
  have HW1 := Lib.hid hW1
  clear hW0 hW1
  subst h0
  rw [an_5 h hb]
  have e1 : ((xs.length : Int) != 128) = false := by rw [h]; rfl
  have HB := fun W => block_w p W
  rw [hb] at HB
  clear h hb
  go_enter Try.func44, Try.ntmps44
  go_upto_region 1 with fail
  rw [← HW0.out]
  go_upto_region 3 with fail
  rw [← HW1.out]
  clear c1
  obtain ⟨c0, c1, c2, c3⟩ : W1.cell? ⟨w.heap.size + 1, 0, none⟩ = some (.int .i64 t) ∧ W1.cell? ⟨w.heap.size + 1, 1, none⟩ = some (.int .i64 1) ∧ W1.cell? ⟨w.heap.size + 1, 2, none⟩ = some (.int .i64 p) ∧ W1.cell? ⟨w.heap.size + 1, 3, none⟩ = some (.slice ax xs.length cx) := ⟨HC.out.cell 0, HC.out.cell 1, HC.out.cell 2, HC.out.cell 3⟩
  obtain ⟨y0, y1, y2, gy1, gy2⟩ : W1.cell? ⟨W0.heap.size, 0, none⟩ = some (.int .i64 t) ∧ W1.cell? ⟨W0.heap.size, 1, none⟩ = some (.int .i64 0) ∧ W1.cell? ⟨W0.heap.size, 2, none⟩ = some (.slice none 0 0) ∧ W1.frozen? ⟨W0.heap.size, 1, none⟩ = false ∧ W1.frozen? ⟨W0.heap.size, 2, none⟩ = false := ⟨HY.out.cell 0, HY.out.cell 1, HY.out.cell 2, HY.out.frozen 1, HY.out.frozen 2⟩
  obtain ⟨r0, r1, r2, z0, z1, z2⟩ : W1.cell? ⟨w.heap.size + 1 + 1, 0, none⟩ = some (.int .i64 0) ∧ W1.cell? ⟨w.heap.size + 1 + 1, 1, none⟩ = some (.int .i64 0) ∧ W1.cell? ⟨w.heap.size + 1 + 1, 2, none⟩ = some (.slice none 0 0) ∧ W1.frozen? ⟨w.heap.size + 1 + 1, 0, none⟩ = false ∧ W1.frozen? ⟨w.heap.size + 1 + 1, 1, none⟩ = false ∧ W1.frozen? ⟨w.heap.size + 1 + 1, 2, none⟩ = false := ⟨HR.out.cell 0, HR.out.cell 1, HR.out.cell 2, HR.out.frozen 0, HR.out.frozen 1, HR.out.frozen 2⟩
  go_wp2_with (go_at_call 31; (with_reducible refine (HB _).mono ?_); rintro e wb ⟨rfl, rfl⟩)
  have hl1 : Below w.heap.size w (W1.setCell ⟨W0.heap.size, 1, none⟩ (.int .i64 (-2))) := HL.out.setCell (by show w.heap.size ≤ W0.heap.size; omega) _
  have hfin := set3 (b := w.heap.size + 1 + 1) hl1 (by omega) (.int .i64 t) (.int .i64 (-2)) (.slice none 0 0)
  have hown := own_keep HO.out fun k hk => hfin.block k (HO.out.lt k hk).2
  exact bodyPost_ret (v := .agg #[.int .i64 t, .int .i64 (-2), .slice none 0 0]) (by simp [results, Try.results44, go_sem, r0, r1, r2]) rfl ⟨_, es, rfl, World.ownsRow_nil _ _ _ _, hown, grown_of_below hfin _, .inl ⟨rfl, rfl⟩⟩
end Go.Proofs.Yteeoonoccklhmaa
