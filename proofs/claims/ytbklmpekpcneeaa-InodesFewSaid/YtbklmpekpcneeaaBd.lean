/-
  The walks of the reference of inodes, the first part.
-/
import Derived.Test.YtbklmpekpcneeaaBa
import Derived.Test.YtbklmpekpcneeaaBc
import Derived.Test.YtbklmpekpcneeaaBb
import Derived.Deep.DeepCutAuto
import Derived.Laws.ResultCell
import Derived.BigQuiet
import Derived.Deep.QuietTactic
import Derived.DeepKeys
import Derived.ChangeKeysEq
set_option linter.unusedVariables false
set_option linter.unusedSimpArgs false
namespace Go.Proofs.Ytbklmpekpcneeaa
open Go.RowKit
set_option maxRecDepth 100000

/-- The cells of an inode. -/
def ic (x : Nd.Ino) : List Value := .int .i64 (x.kind : Int) :: .int .i64 (x.size : Int) :: x.bl.map ei
def iv (x : Nd.Ino) : Value := .agg (ic x).toArray
theorem ic_len {x : Nd.Ino} (h : x.bl.length = 12) : (ic x).length = 14 := by simp [ic, h]
theorem ic_one (x : Nd.Ino) : ∀ u ∈ ic x, u.oneCell' = true := by
  intro u hu
  simp only [ic, List.mem_cons, List.mem_map] at hu
  rcases hu with rfl | rfl | ⟨b, _, rfl⟩ <;> rfl
theorem ic_bk {x : Nd.Ino} (h : x.bl.length = 12) {i : Nat} (hi : i < 12) : (ic x)[2 + i]? = some (.int .i64 ((Nd.bk x i : Nat) : Int)) := by
  have e : (ic x)[2 + i]? = (x.bl.map ei)[i]? := by
    rw [show 2 + i = i + 1 + 1 by omega]; rfl
  rw [e, List.getElem?_map, List.getElem?_eq_getElem (by omega)]
  simp [ei, Nd.bk, h, hi]
theorem ic_setBl (x : Nd.Ino) (i n : Nat) : (ic x).set (2 + i) (.int .i64 (n : Int)) = ic (Nd.setBl x i n) := by
  rw [show 2 + i = i + 1 + 1 by omega]
  simp [ic, Nd.setBl, ei, List.map_set]

section
variable {P : Program} {w : World} {g : Nat} {T ty : TypeId} {l : List Value}
theorem Bk.range (h : Bk w g T l) : w.rangeAt g 0 l := fun j v hv => by rw [Nat.zero_add, h.cell]; exact hv
theorem Bk.part (h : Bk w g T l) (o n : Nat) : w.rangeAt g o ((l.drop o).take n) := fun j v hv => by
  rw [h.cell, ← List.getElem?_drop]
  rw [List.getElem?_take] at hv
  split at hv
  · exact hv
  · cases hv
theorem Bk.there (h : Bk w g T l) (o n : Nat) (hn : o + n ≤ l.length) : w.there g o n := fun j hj => by
  refine ⟨?_, h.frozen _⟩
  rw [h.cell, List.getElem?_eq_getElem (by omega)]
  rfl
end

section
variable {P : Program} {w : World} {ops : Array Oper} {rest : List Oper} {o : Oper} {a : Act} {Q : Exit → Act → World → Prop}
/-- An inode out of its box. -/
theorem wpList_load_ino (hgd : o.guard = none) (ty : TypeId) (x : Operand) (ho : o.op = .load ty x) (g : Nat) (hx : a.eval x = .pointer (some ⟨g, 0, none⟩)) (T : TypeId) (y : Nd.Ino) (hl : y.bl.length = 12) (hb : Bk w g T (ic y))
    (d : TypeDesc) (hu : P.underlying ty = some d) (hd : d.isRow = true) (hi : (P.info? ty).map (·.size) = some 14)
    (h : wpList P ops Q rest (a.put o.dst (iv y)) w) : wpList P ops Q (o :: rest) a w :=
  wpList_load_mid hgd ty x ho g 0 hx (ic y) d hb.range hu hd (by rw [ic_len hl]; exact hi) h
theorem load_ino (P : Program) {w : World} {g : Nat} {T ty : TypeId} {y : Nd.Ino} (hb : Bk w g T (ic y)) (hl : y.bl.length = 12) (d : TypeDesc) (hu : P.underlying ty = some d) (hd : d.isRow = true) (hi : (P.info? ty).map (·.size) = some 14) :
    (loadVar ty ⟨g, 0, none⟩).run P w = .ok (iv y) w := run_loadVar_mid w g 0 ty (ic y) d hb.range hu hd (by rw [ic_len hl]; exact hi)
/-- What a call answers whose result is an inode. -/
theorem results_ino {fn : Func} {p : Tmp} {ty : TypeId} (h : fn.results = #[.cell p ty]) (tmps : Array Value) (w : World) (y : Nd.Ino) (hl : y.bl.length = 12) (g : Nat) (hp : tmps.getD p undef = .pointer (some ⟨g, 0, none⟩)) (T : TypeId) (hb : Bk w g T (ic y))
    (d : TypeDesc) (hu : P.underlying ty = some d) (hd : d.isRow = true) (hi : (P.info? ty).map (·.size) = some 14) : (results fn tmps).run P w = .ok (iv y) w := by
  have hp' : tmps[p]?.getD undef = .pointer (some ⟨g, 0, none⟩) := by simpa using hp
  simp [results, h, hp', asAddr, load_ino P hb hl d hu hd hi]
theorem results_ino_tmp {fn : Func} {p u : Tmp} {ty : TypeId} (h : fn.results = #[.cell p ty, .tmp u]) (tmps : Array Value) (w : World) (y : Nd.Ino) (hl : y.bl.length = 12) (g : Nat) (hp : tmps.getD p undef = .pointer (some ⟨g, 0, none⟩)) (T : TypeId) (hb : Bk w g T (ic y))
    (d : TypeDesc) (hu : P.underlying ty = some d) (hd : d.isRow = true) (hi : (P.info? ty).map (·.size) = some 14) : (results fn tmps).run P w = .ok (.tuple #[iv y, tmps.getD u undef]) w := by
  rw [results_cell_tmp h]
  simp only [hp, asAddr, Sem.run_pure, Result.andThen_ok, load_ino P hb hl d hu hd hi]
theorem results_tmp_ino_tmp {fn : Func} {p u t : Tmp} {ty : TypeId} (h : fn.results = #[.tmp t, .cell p ty, .tmp u]) (tmps : Array Value) (w : World) (y : Nd.Ino) (hl : y.bl.length = 12) (g : Nat) (hp : tmps.getD p undef = .pointer (some ⟨g, 0, none⟩)) (T : TypeId) (hb : Bk w g T (ic y))
    (d : TypeDesc) (hu : P.underlying ty = some d) (hd : d.isRow = true) (hi : (P.info? ty).map (·.size) = some 14) : (results fn tmps).run P w = .ok (.tuple #[tmps.getD t undef, iv y, tmps.getD u undef]) w := by
  have hp' : tmps[p]?.getD undef = .pointer (some ⟨g, 0, none⟩) := by simpa using hp
  simp [results, h, hp', asAddr, load_ino P hb hl d hu hd hi]
/-- Cells out of the midst of a block. -/
theorem wpList_load_part (hgd : o.guard = none) (ty : TypeId) (x : Operand) (ho : o.op = .load ty x) (g k n : Nat) (hx : a.eval x = .pointer (some ⟨g, k, none⟩)) (T : TypeId) (l : List Value) (hb : Bk w g T l) (hk : k + n ≤ l.length)
    (d : TypeDesc) (hu : P.underlying ty = some d) (hd : d.isRow = true) (hi : (P.info? ty).map (·.size) = some n)
    (h : wpList P ops Q rest (a.put o.dst (.agg ((l.drop k).take n).toArray)) w) : wpList P ops Q (o :: rest) a w :=
  wpList_load_mid hgd ty x ho g k hx ((l.drop k).take n) d (hb.part k n) hu hd (by rw [List.length_take, List.length_drop, Nat.min_eq_left (by omega)]; exact hi) h
/-- Cells into the midst of a block. -/
theorem wpList_store_part (hgd : o.guard = none) (ty : TypeId) (x y : Operand) (ho : o.op = .store ty x y) (g k n : Nat) (cs : List Value) (hx : a.eval x = .pointer (some ⟨g, k, none⟩)) (hy : a.eval y = .agg cs.toArray) (T : TypeId) (l : List Value) (hb : Bk w g T l) (hn : cs.length = n) (hk : k + n ≤ l.length)
    (hi : (P.info? ty).map (·.size) = some n) (h1 : ∀ u ∈ cs, u.oneCell' = true)
    (h : ∀ w', Bk w' g T (splice l k cs) → w.grownBy w' (some g) → wpList P ops Q rest (a.put o.dst undef) w') : wpList P ops Q (o :: rest) a w := by
  refine wpList_store_mid hgd ty x y ho g k cs.toArray hx hy (by simpa [hn] using hb.there k n hk) (by simpa [hn] using hi) (all_oneCell_toArray h1) ?_
  have := hb.setCells cs k w l (by omega)
  exact h _ this.1 this.2
end
theorem splice_all {α : Type} (l cs : List α) (h : cs.length = l.length) : splice l 0 cs = cs := by simp [splice, h]
end Go.Proofs.Ytbklmpekpcneeaa
namespace Go.Proofs.Ytbklmpekpcneeaa
open Go.RowKit
set_option maxRecDepth 100000

/-- A disk in memory. -/
theorem Sl.disk {w : World} {v : Value} {d : List UInt8} (hv : Sl eb w v d) (hd : d.length = 12288) : ∃ b off cap, v = .slice (some ⟨b, off, none⟩) 12288 cap ∧ 12288 ≤ cap ∧ cap ≤ maxLen ∧ b < w.heap.size ∧ ∀ W, Below w.heap.size w W → ∀ i, i < 12288 → W.cell? ⟨b, off + i, none⟩ = some (eb (Nd.g d i)) := by
  obtain ⟨a, cap, rfl, hc, hm, -, hr⟩ := id hv
  rw [hd] at hv hc
  obtain ⟨b, off, rfl, hb, -⟩ := hv.addr (by omega)
  refine ⟨b, off, cap, by rw [hd], hc, hm, hb, fun W hW i hi => ?_⟩
  rw [hW.cell (p := ⟨b, off + i, none⟩) hb, (hr.at i (by omega)).2]
  congr 2
  unfold Nd.g
  rw [List.getD_eq_getElem?_getD, List.getElem?_eq_getElem (by omega)]
  rfl

theorem rat_w (n : Nat) (hn : n < 32) (w : World) : Calls Try.prog 78 #[.int .i64 (n : Int)] w fun e w' => e = .returned (.int .i64 ((Nd.at_ n : Nat) : Int)) ∧ w = w' := by
  go_enter Try.func78, Try.ntmps78
  go_wp2
  go_ret
  exact ⟨by unfold Nd.at_; simp, rfl⟩

/-- An inode of which the first k blocks are read. -/
def Nd.decTo (d : List UInt8) (p k : Nat) : Nd.Ino := ⟨(Nd.g d p).toNat, 256 * (Nd.g d (p + 1)).toNat + (Nd.g d (p + 2)).toNat, (List.range 12).map fun i => if i < k then (Nd.g d (p + 3 + i)).toNat else 0⟩
theorem Nd.decTo_step (d : List UInt8) (p k : Nat) : Nd.setBl (Nd.decTo d p k) k (Nd.g d (p + 3 + k)).toNat = Nd.decTo d p (k + 1) := by
  unfold Nd.setBl Nd.decTo
  simp only [Nd.Ino.mk.injEq, true_and]
  apply List.ext_getElem (by simp)
  intro i h1 h2
  simp at h1
  rw [List.getElem_set]
  simp only [List.getElem_map, List.getElem_range]
  by_cases e : k = i
  · subst e; simp
  · by_cases h : i < k
    · simp [e, h]; omega
    · have : ¬ i < k + 1 := by omega
      simp [e, h, this]
theorem Nd.decTo_all (d : List UInt8) (p : Nat) : Nd.decTo d p 12 = Nd.dec d p := by
  unfold Nd.decTo Nd.dec
  simp only [Nd.Ino.mk.injEq, true_and]
  apply List.map_congr_left
  intro i hi
  simp at hi
  simp [hi]
theorem Nd.decTo_len (d : List UInt8) (p k : Nat) : (Nd.decTo d p k).bl.length = 12 := by simp [Nd.decTo]
theorem Try.sizeRI : (Try.prog.info? 45).map (·.size) = some 14 := by kernel_rfl

set_option maxHeartbeats 1600000 in
theorem rraw_w {v : Value} {d : List UInt8} {w : World} (hv : Sl eb w v d) (hd : d.length = 12288) (n : Nat) (hn : n < 32) : Calls Try.prog 47 #[v, .int .i64 (n : Int)] w fun e w' => e = .returned (iv (Nd.raw d n)) ∧ Below w.heap.size w w' := by
  obtain ⟨b, off, cap, rfl, hc, hm, hb, hcell⟩ := hv.disk hd
  have HA := Lib.hid (rat_w n hn)
  obtain ⟨p, hp⟩ : ∃ p, Nd.at_ n = p := ⟨_, rfl⟩
  have hp1 : p + 16 ≤ 12288 := by unfold Nd.at_ at hp; omega
  have HR : Hid (Nd.raw d n = Nd.decTo d p 12) := by show _ = _; unfold Nd.raw; rw [hp, Nd.decTo_all]
  rw [hp] at HA
  unfold maxLen at hm
  have f1 : (0 : Int) ≤ (p : Int) := by omega
  have f2 : (p : Int) ≤ (p : Int) + 16 := by omega
  have f3 : (p : Int) + 16 ≤ (cap : Int) := by omega
  have f4 : p + 16 - p = 16 := by omega
  have HC := Lib.hid hcell
  have HRL : Hid ((Nd.raw d n).bl.length = 12) := by simp [Nd.raw, Nd.dec, Hid]
  obtain ⟨W1, hW1⟩ : ∃ W, W = w.alloc (.cells #[.int .i64 0, .int .i64 0, .int .i64 0, .int .i64 0, .int .i64 0, .int .i64 0, .int .i64 0, .int .i64 0, .int .i64 0, .int .i64 0, .int .i64 0, .int .i64 0, .int .i64 0, .int .i64 0] 45 (0, 0)) := ⟨_, rfl⟩
  have hs1 : W1.heap.size = w.heap.size + 1 := by rw [hW1]; simp
  have hl1 : Below w.heap.size w W1 := by rw [hW1]; exact low_alloc _ _
  have hk1 : Bk W1 w.heap.size 45 [.int .i64 0, .int .i64 0, .int .i64 0, .int .i64 0, .int .i64 0, .int .i64 0, .int .i64 0, .int .i64 0, .int .i64 0, .int .i64 0, .int .i64 0, .int .i64 0, .int .i64 0, .int .i64 0] := by rw [hW1]; exact Bk.new w _ [.int .i64 0, .int .i64 0, .int .i64 0, .int .i64 0, .int .i64 0, .int .i64 0, .int .i64 0, .int .i64 0, .int .i64 0, .int .i64 0, .int .i64 0, .int .i64 0, .int .i64 0, .int .i64 0]
  have HW1 := Lib.hid hW1
  clear hv hd hp hcell hW1
  go_enter Try.func47, Try.ntmps47
  go_upto_region 2 with (go_at_call 78; (with_reducible refine (HA.out _).mono ?_); rintro e w' ⟨rfl, rfl⟩)
  rw [← HW1.out]
  have y0 := fun W (hW : Below w.heap.size w W) => HC.out W hW p (by omega)
  have y1 := fun W (hW : Below w.heap.size w W) => HC.out W hW (p + 1) (by omega)
  have y2 := fun W (hW : Below w.heap.size w W) => HC.out W hW (p + 2) (by omega)
  have HQ : Hid (∀ W, Below w.heap.size w W → W.cell? ⟨b, off + p, none⟩ = some (eb (Nd.g d p)) ∧ W.cell? ⟨b, off + p + 1, none⟩ = some (eb (Nd.g d (p + 1))) ∧ W.cell? ⟨b, off + p + 2, none⟩ = some (eb (Nd.g d (p + 2)))) := fun W hW => ⟨y0 W hW, y1 W hW, y2 W hW⟩
  unfold eb at HQ
  clear y0 y1 y2
  obtain ⟨y0, y1, y2⟩ := HQ.out W1 hl1
  have HX0 : Hid (ic (Nd.decTo d p 0) = [.int .i64 ((Nd.g d p).toNat : Int), .int .i64 (256 * ((Nd.g d (p + 1)).toNat : Int) + ((Nd.g d (p + 2)).toNat : Int)), .int .i64 0, .int .i64 0, .int .i64 0, .int .i64 0, .int .i64 0, .int .i64 0, .int .i64 0, .int .i64 0, .int .i64 0, .int .i64 0, .int .i64 0, .int .i64 0]) := by
    show _ = _
    simp only [ic, Nd.decTo, Nat.not_lt_zero, if_false, Int.natCast_add, Int.natCast_mul]
    rfl
  have hq0 := (Nd.g d p).toNat_lt
  have hq1 := (Nd.g d (p + 1)).toNat_lt
  have hq2 := (Nd.g d (p + 2)).toNat_lt
  generalize (Nd.g d p).toNat = k0 at *
  generalize (Nd.g d (p + 1)).toNat = k1 at *
  generalize (Nd.g d (p + 2)).toNat = k2 at *
  have e0 : IntKind.i64.wrap (k0 : Int) = (k0 : Int) := IntWalk.i64_in _ (by omega)
  have e1 : IntKind.i64.wrap (k1 : Int) = (k1 : Int) := IntWalk.i64_in _ (by omega)
  have e2 : IntKind.i64.wrap (k2 : Int) = (k2 : Int) := IntWalk.i64_in _ (by omega)
  have e3 : IntKind.i64.wrap (256 * (k1 : Int)) = 256 * (k1 : Int) := IntWalk.i64_in _ (by omega)
  have e4 : IntKind.i64.wrap (256 * (k1 : Int) + (k2 : Int)) = 256 * (k1 : Int) + (k2 : Int) := IntWalk.i64_in _ (by omega)
  go_region_held3 (fun w' => w'.cell? ⟨b, off + p, none⟩ = some (.int .u8 (k0 : Int)) ∧ w'.cell? ⟨b, off + p + 1, none⟩ = some (.int .u8 (k1 : Int)) ∧ w'.cell? ⟨b, off + p + 2, none⟩ = some (.int .u8 (k2 : Int))) (first | with_reducible assumption | go_keep) (fail)
  obtain ⟨W2, hW2⟩ : ∃ W, W = (W1.alloc (.cells #[.int .i64 (k0 : Int), .int .i64 (256 * (k1 : Int) + (k2 : Int)), .int .i64 0, .int .i64 0, .int .i64 0, .int .i64 0, .int .i64 0, .int .i64 0, .int .i64 0, .int .i64 0, .int .i64 0, .int .i64 0, .int .i64 0, .int .i64 0] 45 (0, 0))).drew := ⟨_, rfl⟩
  have hk2 : Bk W2 (w.heap.size + 1) 45 (ic (Nd.decTo d p 0)) := by
    rw [hW2, HX0.out]
    exact Bk.newAt W1 _ [.int .i64 (k0 : Int), .int .i64 (256 * (k1 : Int) + (k2 : Int)), .int .i64 0, .int .i64 0, .int .i64 0, .int .i64 0, .int .i64 0, .int .i64 0, .int .i64 0, .int .i64 0, .int .i64 0, .int .i64 0, .int .i64 0, .int .i64 0] hs1.symm
  have hz2 : Bk W2 w.heap.size 45 [.int .i64 0, .int .i64 0, .int .i64 0, .int .i64 0, .int .i64 0, .int .i64 0, .int .i64 0, .int .i64 0, .int .i64 0, .int .i64 0, .int .i64 0, .int .i64 0, .int .i64 0, .int .i64 0] := by rw [hW2]; exact (hk1.alloc _).keep rfl
  have hl2 : Below w.heap.size w W2 := by rw [hW2]; exact (hl1.alloc (by omega) _).drew
  rw [← hW2]
  clear hW2 y0 y1 y2 e0 e1 e2 e3 e4 hk1 hl1 HQ
  go_wp2_with fail
  go_loopw [7] (fun i wr => ∃ k : Nat, i = .int .i64 k ∧ k ≤ 12 ∧ Bk wr (w.heap.size + 1) 45 (ic (Nd.decTo d p k)) ∧ Bk wr w.heap.size 45 [.int .i64 0, .int .i64 0, .int .i64 0, .int .i64 0, .int .i64 0, .int .i64 0, .int .i64 0, .int .i64 0, .int .i64 0, .int .i64 0, .int .i64 0, .int .i64 0, .int .i64 0, .int .i64 0] ∧ Below w.heap.size w wr) (fun i _ => 12 - (intOf i).toNat)
  case atStart => exact ⟨0, rfl, by omega, hk2, hz2, hl2⟩
  case round =>
    obtain ⟨k, rfl, hk, hbk, hbz, hbl⟩ := hrel
    by_cases hlt : k < 12
    · have y3 : wr.cell? ⟨b, off + p + (3 + k), none⟩ = some (.int .u8 ((Nd.g d (p + 3 + k)).toNat : Int)) := by
        have := HC.out wr hbl (p + 3 + k) (by omega)
        rw [show off + p + (3 + k) = off + (p + 3 + k) by omega]
        exact this
      have z0 : wr.cell? ⟨w.heap.size + 1, 2 + k, none⟩ = some (.int .i64 ((Nd.bk (Nd.decTo d p k) k : Nat) : Int)) := by rw [hbk.cell]; exact ic_bk (Nd.decTo_len _ _ _) hlt
      have zf := hbk.frozen (2 + k)
      have HN : Hid (Bk (wr.setCell ⟨w.heap.size + 1, 2 + k, none⟩ (.int .i64 ((Nd.g d (p + 3 + k)).toNat : Int))) (w.heap.size + 1) 45 (ic (Nd.decTo d p (k + 1)))) := by
        have := hbk.set (2 + k) (.int .i64 ((Nd.g d (p + 3 + k)).toNat : Int))
        rw [ic_setBl, Nd.decTo_step] at this
        exact this
      have HZ : Hid (Bk (wr.setCell ⟨w.heap.size + 1, 2 + k, none⟩ (.int .i64 ((Nd.g d (p + 3 + k)).toNat : Int))) w.heap.size 45 [.int .i64 0, .int .i64 0, .int .i64 0, .int .i64 0, .int .i64 0, .int .i64 0, .int .i64 0, .int .i64 0, .int .i64 0, .int .i64 0, .int .i64 0, .int .i64 0, .int .i64 0, .int .i64 0]) := hbz.far (by simp) _
      have HL : Hid (Below w.heap.size w (wr.setCell ⟨w.heap.size + 1, 2 + k, none⟩ (.int .i64 ((Nd.g d (p + 3 + k)).toNat : Int)))) := hbl.setCell (by simp) _
      have hx := (Nd.g d (p + 3 + k)).toNat_lt
      generalize (Nd.g d (p + 3 + k)).toNat = x at *
      have e0 : IntKind.i64.wrap (x : Int) = (x : Int) := IntWalk.i64_in _ (by omega)
      have f5 : (0 : Int) ≤ (k : Int) := by omega
      have f6 : (k : Int) < 12 := by omega
      clear hbk hbz hbl
      go_wp2_with fail
      go_roundw
      case rel => exact ⟨k + 1, by go_num, by omega, HN.out, HZ.out, HL.out⟩
      case measure => simp [intOf]; omega
    · obtain rfl : k = 12 := by omega
      rw [← HR.out] at hbk
      go_wp2_with (first
        | (refine wpList_load_ino rfl 45 _ rfl (w.heap.size + 1) rfl 45 (Nd.raw d n) HRL.out hbk _ Try.underlying45 rfl Try.sizeRI ?_)
        | (refine wpList_store_part rfl 45 _ _ rfl w.heap.size 0 14 (ic (Nd.raw d n)) rfl rfl 45 _ hbz (ic_len HRL.out) (by simp) Try.sizeRI (ic_one _) ?_; intro w3 hk3 hg3))
      rw [splice_all _ _ (by rw [ic_len HRL.out]; rfl)] at hk3
      (try simp only [Exit.inBlock, Exit.then])
      exact bodyPost_ret (results_ino rfl _ _ (Nd.raw d n) HRL.out w.heap.size rfl _ hk3 _ Try.underlying45 rfl Try.sizeRI) rfl ⟨rfl, hbl.trans (below_of_grown hg3 (Nat.le_refl _) hbl.size)⟩
end Go.Proofs.Ytbklmpekpcneeaa
namespace Go.Proofs.Ytbklmpekpcneeaa
open Go.RowKit
set_option maxRecDepth 100000

theorem wrap_u8_nat (n : Nat) : IntKind.u8.wrap (n : Int) = ((UInt8.ofNat n).toNat : Int) := by
  rw [UInt8.toNat_ofNat']
  simp only [IntKind.wrap, IntKind.bits, IntKind.signed, Bool.false_and]
  simp
theorem own_sl0 {w : World} {B n : Nat} {v : Value} {xs : List UInt8} (h : w.ownsRow B 5 1 v n (xs.map eb)) (hn : xs.length = n) : Sl eb w v xs := by
  subst hn
  exact Sl.ofOwn h

/-- append([]byte{}, s...) of a slice that lies there. -/
theorem wpList_copy_of {P : Program} {w : World} {ops : Array Oper} {rest : List Oper} {o : Oper} {a : Act} {Q : Exit → Act → World → Prop} (hgd : o.guard = none) (s x : Operand) (t e : TypeId)
    (ho : o.op = .call { callee := .builtin .append, args := #[s, x], argTypes := #[t, t] })
    (i : TypeInfo) (ht : P.underlying t = some (.slice e)) (hi : P.info? e = some i) (hz : i.zero = some (.int .u8 0)) (hsize : i.size = 1) (hby : i.bytes = 1)
    (W0 : World) (hs : a.eval s = .slice (some ⟨W0.heap.size, 0, none⟩) 0 0) (hw : w = W0.alloc (.cells #[] e (0, 0)))
    (ad : Option Addr) (c : Nat) (ys : List UInt8) (m : Nat) (hx : a.eval x = .slice ad m c) (hm : ys.length = m) (hsl : Sl eb W0 (.slice ad m c) ys) (hle : m ≤ 100000)
    (h : ∀ v' w', w'.ownsRow W0.heap.size e 1 v' m (ys.map eb) → Below W0.heap.size W0 w' → wpList P ops Q rest (a.put o.dst v') w') : wpList P ops Q (o :: rest) a w := by
  subst hw
  obtain ⟨a2, c2, q, h1, h2, h3, h4⟩ := hsl
  injection q with q1 q2 q3
  subst q1 q3
  refine wpList_append_rd eb (fun _ => rfl) hgd s x t ho W0.heap.size e i (.int .u8 0) 1 ht hi hz hsize hby rfl _ 0 [] hs (World.ownsRow_made W0 #[] 0 (Nat.le_refl _) (Nat.zero_le _) rfl) ad c ys m hx hm h3 (by omega) (h4.below (low_alloc _ _) (Nat.le_refl _)) (by unfold maxLen; omega) (by omega) (by simp) ?_
  intro v1 w1 hown _ hbl
  exact h v1 w1 (by simpa using hown) ((low_alloc W0 _).trans hbl)

theorem bitmap_w {v : Value} {d : List UInt8} {w : World} (hv : Sl eb w v d) (hd : d.length = 12288) : Calls Try.prog 49 #[v] w fun e w' => ∃ v', e = .returned v' ∧ w'.ownsRow w.heap.size 5 1 v' 12 ((Nd.bits d).map eb) ∧ Below w.heap.size w w' := by
  obtain ⟨b, off, cap, rfl, hc, hm, hb, -⟩ := hv.disk hd
  have HS := Lib.hid (hv.cut 1664 12 (by omega))
  have HBL : Hid (∀ W, Calls Try.prog 51 #[.slice (some ⟨b, off, none⟩) 12288 cap, .int .i64 13] W fun e w' => e = .returned (.slice (some ⟨b, off + 1664, none⟩) 128 (cap - 1664)) ∧ W = w') := fun W => rblock_w b off cap 13 (by omega) hc hm W
  have HL : Hid (((d.drop 1664).take 12).length = 12) := by show _ = _; rw [List.length_take, List.length_drop]; omega
  obtain ⟨i0, hi, hz0, hz1, hz2⟩ := info_parts Try.info5
  unfold maxLen at hm
  have f1 : (12 : Int) ≤ (cap : Int) - 1664 := by omega
  have f2 : 12 ≤ cap - 1664 := by omega
  clear hv hd
  go_enter Try.func49, Try.ntmps49
  go_wp2_with (first
    | (go_at_call 51; (with_reducible refine (HBL.out _).mono ?_); rintro e w' ⟨rfl, rfl⟩)
    | (at_builtin; refine wpList_copy_of rfl _ _ 25 5 rfl i0 Try.underlying25 hi hz0 hz1 hz2 w rfl rfl (some ⟨b, off + 1664, none⟩) (cap - 1664) ((d.drop 1664).take 12) 12 rfl HL.out HS.out (by omega) ?_; intro v1 w1 ho1 hb1))
  go_ret
  exact ⟨_, rfl, ho1, hb1⟩

theorem withBitmap_w {v u : Value} {d b : List UInt8} {w : World} (hv : Sl eb w v d) (hd : d.length = 12288) (hu : Sl eb w u b) (hbl : b.length ≤ 128) : Calls Try.prog 59 #[v, u] w fun e w' => ∃ v', e = .returned v' ∧ w'.ownsRow w.heap.size 5 1 v' 12288 ((Nd.putB d b).map eb) ∧ Below w.heap.size w w' := by
  have HV := Lib.hid hv
  obtain ⟨q, off, cap, rfl, hc, hm, hb, -⟩ := hv.disk hd
  have HU := Lib.hid hu
  obtain ⟨a2, c2, rfl, h1, h2, h3, -⟩ := hu
  have HBK : Hid (∀ (g c : Nat), 12288 ≤ c → c ≤ maxLen → ∀ W, Calls Try.prog 51 #[.slice (some ⟨g, 0, none⟩) 12288 c, .int .i64 13] W fun e w' => e = .returned (.slice (some ⟨g, 1664, none⟩) 128 (c - 1664)) ∧ W = w') := fun g c hc hm W => by
    have h := rblock_w g 0 c 13 (by omega) hc hm W
    rw [Nat.zero_add] at h
    exact h
  have HD := Lib.hid hd
  have HT : Hid (b.take 128 = b) := List.take_of_length_le hbl
  have hszu : (Try.prog.info? 5).map (·.size) = some 1 := by kernel_rfl
  obtain ⟨i0, hi, hz0, hz1, hz2⟩ := info_parts Try.info5
  clear hv hd
  go_enter Try.func59, Try.ntmps59
  go_wp2_with (first
    | (at_builtin; refine wpList_copy_of rfl _ _ 25 5 rfl i0 Try.underlying25 hi hz0 hz1 hz2 w rfl rfl (some ⟨q, off, none⟩) cap d 12288 rfl HD.out HV.out (by omega) ?_; intro v1 w1 ho1 hb1; obtain ⟨g, c, rfl⟩ := own_form ho1 (by omega))
    | (go_at_call 51; (with_reducible refine (HBK.out g c (own_bk' ho1).2.1 (own_bk' ho1).2.2.1 _).mono ?_); rintro e w' ⟨rfl, rfl⟩)
    | (refine wpList_copy_own8 rfl (.tmp 10) (.tmp 11) 25 25 rfl 5 Try.underlying25 hszu w.heap.size g 12288 c d ho1 1664 128 (c - 1664) rfl (by omega) (.slice a2 b.length c2) b rfl (HU.out.below hb1 (Nat.le_refl _)) ?_; intro w2 ho2 hg2))
  go_ret
  rw [HT.out] at ho2
  exact ⟨_, rfl, ho2, hb1.trans (below_of_grown hg2 (ho1.lt g rfl).1 hb1.size)⟩

theorem rzeros_w {v : Value} {l : List UInt8} {w : World} (hv : Sl eb w v l) (hl : l.length ≤ 100000) : Calls Try.prog 50 #[v] w fun e w' => e = .returned (.bool (Nd.zs l)) ∧ w = w' := by
  obtain ⟨a, cap, rfl, h1, h2, h3, hr⟩ := hv
  have HR := Lib.hid hr
  have HN := Lib.hid (fun k (hk : k < l.length) (h : l[k] ≠ 0) => Nd.zs_no hk h)
  have HY := Lib.hid (fun h => Nd.zs_yes (l := l) h)
  generalize Nd.zs l = r at *
  clear hr
  go_enter Try.func50, Try.ntmps50
  go_wp2_with fail
  go_loopw [3] (fun i wr => ∃ k : Nat, i = .int .i64 k ∧ k ≤ l.length ∧ wr = w ∧ Hid (∀ j (h : j < l.length), j < k → l[j] = 0)) (fun i _ => l.length - (intOf i).toNat)
  case atStart => exact ⟨0, rfl, Nat.zero_le _, rfl, fun j _ h => absurd h (Nat.not_lt_zero _)⟩
  case round =>
    obtain ⟨k, rfl, hk, rfl, HZ⟩ := hrel
    by_cases hlt : k < l.length
    · obtain ⟨b, off, rfl, hb, y0⟩ := HR.out k hlt
      have f1 : (0 : Int) ≤ (k : Int) := by omega
      have f2 : (k : Int) < (l.length : Int) := by omega
      unfold eb at y0
      have HN2 := Lib.hid (HN.out k hlt)
      have HZ2 : Hid (l[k] = 0 → ∀ j (h : j < l.length), j < k + 1 → l[j] = 0) := fun e j h hj => by
        by_cases e2 : j = k
        · subst e2; exact e
        · exact HZ.out j h (by omega)
      generalize l[k] = x at *
      by_cases hx : x = 0
      · have HZ3 := Lib.hid (HZ2.out hx)
        have f3 : ((x.toNat : Int) != 0) = false := by rw [hx]; rfl
        clear hx
        go_wp2_with fail
        go_roundw
        case rel => exact ⟨k + 1, by go_num, by omega, by first | rfl | trivial, HZ3.out⟩
        case measure => simp [intOf]; omega
      · have HN3 := Lib.hid (HN2.out hx)
        have f3 : ((x.toNat : Int) != 0) = true := eb_ne (y := 0) hx
        clear hx
        go_wp2_with fail
        go_ret
        exact ⟨ret_bool HN3.out.symm, rfl⟩
    · have HY2 := Lib.hid (HY.out fun j h => HZ.out j h (by omega))
      go_wp2_with fail
      go_ret
      exact ⟨ret_bool HY2.out.symm, rfl⟩
end Go.Proofs.Ytbklmpekpcneeaa
namespace Go.Proofs.Ytbklmpekpcneeaa
open Go.RowKit
set_option maxRecDepth 100000

/-- The first bytes of an inode: k of its blocks. -/
def Nd.encTo (x : Nd.Ino) (k : Nat) : List UInt8 := [UInt8.ofNat x.kind, UInt8.ofNat (x.size / 256), UInt8.ofNat (x.size % 256)] ++ (x.bl.take k).map UInt8.ofNat
theorem Nd.encTo_step {x : Nd.Ino} (hx : x.bl.length = 12) {k : Nat} (hk : k < 12) : Nd.encTo x k ++ [UInt8.ofNat (Nd.bk x k)] = Nd.encTo x (k + 1) := by
  unfold Nd.encTo Nd.bk
  rw [List.take_succ_eq_append_getElem (by omega), List.map_append, List.append_assoc]
  simp [List.getD_eq_getElem?_getD, List.getElem?_eq_getElem (show k < x.bl.length by omega)]
theorem Nd.encTo_len {x : Nd.Ino} (hx : x.bl.length = 12) {k : Nat} (hk : k ≤ 12) : (Nd.encTo x k).length = 3 + k := by
  simp [Nd.encTo, hx]; omega
theorem Nd.encTo_all {x : Nd.Ino} (hx : x.bl.length = 12) : Nd.encTo x 12 ++ [0] = Nd.enc x := by
  simp [Nd.encTo, Nd.enc, List.take_of_length_le (Nat.le_of_eq hx)]
theorem Nd.enc_len {x : Nd.Ino} (hx : x.bl.length = 12) : (Nd.enc x).length = 16 := by
  rw [← Nd.encTo_all hx, List.length_append, Nd.encTo_len hx (Nat.le_refl _)]; rfl

set_option maxHeartbeats 1600000 in
theorem rput_w {v : Value} {d : List UInt8} {w : World} (hv : Sl eb w v d) (hd : d.length = 12288) (n : Nat) (hn : n < 32) (x : Nd.Ino) (hx : x.bl.length = 12) (hsz : x.size < 65536) : Calls Try.prog 58 #[v, .int .i64 (n : Int), .agg (ic x).toArray] w fun e w' => ∃ v', e = .returned v' ∧ w'.ownsRow w.heap.size 5 1 v' 12288 ((Nd.putI d n x).map eb) ∧ Below w.heap.size w w' := by
  have hv0 := hv
  obtain ⟨b, off, cap, rfl, hc, hm, hb, -⟩ := hv.disk hd
  have HA := Lib.hid (rat_w n hn)
  obtain ⟨p, hp⟩ : ∃ p, Nd.at_ n = p := ⟨_, rfl⟩
  have hp1 : p + 16 ≤ 12288 := by unfold Nd.at_ at hp; omega
  have HP : Hid (Nd.putI d n x = Jr.put d p ((Nd.enc x).take 16)) := by
    show _ = _
    unfold Nd.putI
    rw [hp, List.take_of_length_le (by rw [Nd.enc_len hx]; omega)]
  rw [hp] at HA
  have HX := Lib.hid hx
  have HD := Lib.hid hd
  have hszu : (Try.prog.info? 5).map (·.size) = some 1 := by kernel_rfl
  obtain ⟨i0, hi, hz0, hz1, hz2⟩ := info_parts Try.info5
  obtain ⟨W1, hW1⟩ : ∃ W, W = w.alloc (.cells (ic x).toArray 45 (0, 0)) := ⟨_, rfl⟩
  have hs1 : W1.heap.size = w.heap.size + 1 := by rw [hW1]; simp
  have hl1 : Below w.heap.size w W1 := by rw [hW1]; exact low_alloc _ _
  have hk1 : Bk W1 w.heap.size 45 (ic x) := by rw [hW1]; exact Bk.new w _ _
  have hw1 : w.heap.size < W1.heap.size := by omega
  have HS1 := Lib.hid hs1
  have HV1 := Lib.hid (hv0.below hl1 (Nat.le_refl _))
  have HW1 := Lib.hid hW1
  have HK1 := Lib.hid hk1
  have HL1 := Lib.hid hl1
  unfold maxLen at hm
  clear hv hv0 hd hp hx hW1 hs1
  go_enter Try.func58, Try.ntmps58
  go_upto_region 1 with fail
  rw [← HW1.out]
  go_upto_region 2 with (at_builtin; refine wpList_copy_of rfl _ _ 25 5 rfl i0 Try.underlying25 hi hz0 hz1 hz2 W1 rfl rfl (some ⟨b, off, none⟩) cap d 12288 rfl HD.out HV1.out (by omega) ?_; intro v2 w2 ho2 hb2)
  obtain ⟨g, c, rfl⟩ := own_form ho2 (by omega)
  have hk2 := hk1.below hb2 (by omega)
  have hl2 : Below w.heap.size w w2 := hl1.trans (hb2.mono (by omega))
  have z0 : w2.cell? ⟨w.heap.size, 0, none⟩ = some (.int .i64 (x.kind : Int)) := hk2.cell 0
  have z1 : w2.cell? ⟨w.heap.size, 1, none⟩ = some (.int .i64 (x.size : Int)) := hk2.cell 1
  have e0 := wrap_u8_nat x.kind
  have e1 := wrap_u8_nat (x.size / 256)
  have e2 := wrap_u8_nat (x.size % 256)
  rw [show (((x.size / 256 : Nat) : Int)) = (x.size : Int) / 256 by omega] at e1
  rw [show (((x.size % 256 : Nat) : Int)) = (x.size : Int) % 256 by omega] at e2
  have f1 : (0 : Int) ≤ (x.size : Int) := by omega
  have HE0 : Hid (Nd.encTo x 0 = [UInt8.ofNat x.kind, UInt8.ofNat (x.size / 256), UInt8.ofNat (x.size % 256)]) := by show _ = _; simp [Nd.encTo]
  have e3 : wrap64 ((x.size : Int) / 256) = (x.size : Int) / 256 := IntWalk.wrap64_in _ (by omega)
  have e4 : (x.size : Int) / 256 % 256 = ((UInt8.ofNat (x.size / 256)).toNat : Int) := by rw [UInt8.toNat_ofNat']; omega
  generalize UInt8.ofNat x.kind = q0 at *
  generalize UInt8.ofNat (x.size / 256) = q1 at *
  generalize UInt8.ofNat (x.size % 256) = q2 at *
  go_upto_region 3 with fail
  obtain ⟨W3, hW3⟩ : ∃ W, W = w2.alloc (.cells #[.int .u8 (q0.toNat : Int), .int .u8 (q1.toNat : Int), .int .u8 (q2.toNat : Int)] 5 (0, 0)) := ⟨_, rfl⟩
  have ho3 : W3.ownsRow w2.heap.size 5 1 (.slice (some ⟨w2.heap.size, 0, none⟩) 3 3) 3 ((Nd.encTo x 0).map eb) := by
    rw [HE0.out, hW3]
    exact Bk.own (Bk.new w2 _ [.int .u8 (q0.toNat : Int), .int .u8 (q1.toNat : Int), .int .u8 (q2.toNat : Int)]) (Nat.le_refl _) (by simp [maxLen])
  have hg3 : Below w2.heap.size w2 W3 := by rw [hW3]; exact low_alloc _ _
  have hl3 : Below w.heap.size w W3 := hl2.trans (hg3.mono hl2.size)
  have hk3 : Bk W3 w.heap.size 45 (ic x) := hk2.below hg3 hk2.lt
  have hod3 : W3.ownsRow W1.heap.size 5 1 (.slice (some ⟨g, 0, none⟩) 12288 c) 12288 (d.map eb) := own_below ho2 hg3
  have ho3' := Lib.hid hod3
  have hgb : W1.heap.size ≤ g ∧ g < w2.heap.size := ho2.lt g rfl
  rw [← hW3]
  have hl2s := hl2.size
  clear hW3 hg3 ho2 hk2 hl2 z0 z1 e0 e1 e2 e3 e4 hk1 hl1 hb2 HK1
  go_wp2_with fail
  go_loopw [8, 9] (fun s8 i wr => ∃ k : Nat, i = .int .i64 k ∧ k ≤ 12 ∧ wr.ownsRow w2.heap.size 5 1 s8 (3 + k) ((Nd.encTo x k).map eb) ∧ wr.ownsRow W1.heap.size 5 1 (.slice (some ⟨g, 0, none⟩) 12288 c) 12288 (d.map eb) ∧ Bk wr w.heap.size 45 (ic x) ∧ Below w.heap.size w wr ∧ w2.heap.size ≤ wr.heap.size) (fun _ i _ => 12 - (intOf i).toNat)
  case atStart => exact ⟨0, rfl, by omega, ho3, hod3, hk3, hl3, Nat.le_of_lt (ho3.lt _ rfl).2⟩
  case round =>
    obtain ⟨k, rfl, hk, hob, hod, hbk, hbl, hsz⟩ := hrel
    by_cases hlt : k < 12
    · have z3 : wr.cell? ⟨w.heap.size, 2 + k, none⟩ = some (.int .i64 ((Nd.bk x k : Nat) : Int)) := by rw [hbk.cell]; exact ic_bk HX.out hlt
      have e5 := wrap_u8_nat (Nd.bk x k)
      have HST : Hid (Nd.encTo x k ++ [UInt8.ofNat (Nd.bk x k)] = Nd.encTo x (k + 1)) := Nd.encTo_step HX.out hlt
      have hlen : (Nd.encTo x k).length = 3 + k := Nd.encTo_len HX.out hk
      generalize UInt8.ofNat (Nd.bk x k) = q at *
      have HLN := Lib.hid hlen
      have f5 : (0 : Int) ≤ (k : Int) := by omega
      have f6 : (k : Int) < 12 := by omega
      have HOB := Lib.hid (hob.alloc (.cells #[.int .u8 (q.toNat : Int)] 5 (0, 0)))
      have HOD := Lib.hid hod
      have HBK := Lib.hid hbk
      have HBL := Lib.hid hbl
      clear hob hod hbk hbl hlen
      go_wp2_with (at_builtin; refine wpList_append_rd eb (fun _ => rfl) rfl (.tmp 29) (.tmp 35) 25 rfl w2.heap.size 5 i0 (.int .u8 0) 1 Try.underlying25 hi hz0 hz1 hz2 rfl u8 (3 + k) (Nd.encTo x k) rfl HOB.out (some ⟨wr.heap.size, 0, none⟩) 1 [q] 1 rfl rfl (by simp) (by omega) (Rd.one eb _ _ _ _) (by unfold maxLen; omega) (by omega) (by simp; omega) ?_; intro v4 w4 ho4 hs4 hb4)
      have hb4' : Below w2.heap.size wr w4 := ((Below.refl _ wr).alloc hsz _).trans hb4
      rw [HST.out] at ho4
      go_roundw
      case rel => exact ⟨k + 1, by go_num, by omega, by rw [show 3 + (k + 1) = 3 + k + 1 by omega]; exact ho4, own_keep HOD.out (fun j hj => hb4'.block j (by simp [Value.ownBlock] at hj; omega)), HBK.out.below hb4' (by omega), HBL.out.trans (hb4'.mono (by omega)), Nat.le_trans hsz hb4'.size⟩
      case measure => simp [intOf]; omega
    · obtain rfl : k = 12 := by omega
      have HBL : Hid (∀ W, Below wr.heap.size wr W → Below w.heap.size w W) := fun W hW => stepAny hbl hW
      have HOD : Hid (∀ W, Below wr.heap.size wr W → W.ownsRow W1.heap.size 5 1 (.slice (some ⟨g, 0, none⟩) 12288 c) 12288 (d.map eb)) := fun W hW => own_below hod hW
      have HOB : Hid (∀ W, Below wr.heap.size wr W → W.ownsRow w2.heap.size 5 1 u8 15 ((Nd.encTo x 12).map eb)) := fun W hW => own_below hob hW
      have HEN : Hid (Nd.encTo x 12 ++ [0] = Nd.enc x) := Nd.encTo_all HX.out
      have HEL : Hid ((Nd.enc x).length = 16) := Nd.enc_len HX.out
      obtain ⟨hc1, hc2, hc3⟩ : 12288 ≤ c ∧ c ≤ maxLen ∧ True := ⟨(own_bk' ho3'.out).2.1, (own_bk' ho3'.out).2.2.1, trivial⟩
      unfold maxLen at hc2
      have f1 : (0 : Int) ≤ (p : Int) := by omega
      have f2 : (p : Int) ≤ (p : Int) + 16 := by omega
      have f3 : (p : Int) + 16 ≤ (c : Int) := by omega
      have f4 : p + 16 - p = 16 := by omega
      have f6 : ((p : Int) + 16).toNat - p = 16 := by omega
      have f7 : ¬ c = p := by omega
      have f5 : IntKind.i64.wrap ((p : Int) + 16) = (p : Int) + 16 := IntWalk.i64_in _ (by omega)
      have egA : ∀ args w, (callFunc 78 args).run Try.prog w = .ok (.enter 78 args) w := fun _ _ => by rfl
      clear hob hod hbk hbl
      go_upto_region 7 with fail
      go_region_held3 (fun _ => True) (trivial) ((first
        | (refine step_call rfl 78 [.tmp 38] #[3] (by rfl) [.int .i64 (n : Int)] (by rfl) egA (HA.out _) ?_; rintro e w' ⟨rfl, rfl⟩; refine ⟨_, rfl, ?_⟩)
        | (refine step_call rfl 78 [.tmp 40] #[3] (by rfl) [.int .i64 (n : Int)] (by rfl) egA (HA.out _) ?_; rintro e w' ⟨rfl, rfl⟩; refine ⟨_, rfl, ?_⟩)
        | (refine step_append_rd eb (fun _ => rfl) rfl (.tmp 44) (.tmp 45) 25 rfl w2.heap.size 5 i0 (.int .u8 0) 1 Try.underlying25 hi hz0 hz1 hz2 rfl u8 15 (Nd.encTo x 12) rfl (HOB.out _ (low_adrew _ _)) (some ⟨wr.heap.size, 0, none⟩) 1 [0] 1 rfl rfl (by simp) (by omega) (Rd.oneDrew eb wr (0 : UInt8) _ _) (by unfold maxLen; omega) (by omega) (by simp; omega) ?_; intro v4 w4 ho4 hs4 hb4; rw [HEN.out] at ho4; have ho5 := own_keep (HOD.out _ (low_adrew _ _)) (fun j hj => hb4.block j (by simp [Value.ownBlock] at hj; omega)); have hb5 := (HBL.out _ (low_adrew _ _)).trans (hb4.mono hl2s))
        | (refine step_copy_own8 rfl (.tmp 43) (.tmp 46) 25 25 rfl 5 Try.underlying25 hszu W1.heap.size g 12288 c d ho5 p 16 (c - p) rfl (by omega) v4 (Nd.enc x) rfl (own_sl0 ho4 HEL.out) ?_; intro w6 ho6 hg6)))
      all_goals
        go_wp2_with fail
        go_ret
        exact ⟨_, rfl, by rw [HP.out]; exact own_base ho6 (by omega), hb5.trans (below_of_grown hg6 (by omega) hb5.size)⟩
end Go.Proofs.Ytbklmpekpcneeaa
namespace Go.Proofs.Ytbklmpekpcneeaa
open Go.RowKit
set_option maxRecDepth 100000

set_option maxHeartbeats 1600000 in
theorem rtail_w {v : Value} {d : List UInt8} {w : World} (hv : Sl eb w v d) (hd : d.length = 12288) (x : Nd.Ino) (hx : x.bl.length = 12) (hs : x.size ≤ 1536) (hb96 : ∀ i, i < 12 → Nd.bk x i < 96) : Calls Try.prog 80 #[v, .agg (ic x).toArray] w fun e w' => e = .returned (.bool (Nd.tl d x)) ∧ Below w.heap.size w w' := by
  have hv0 := hv
  obtain ⟨b, off, cap, rfl, hc, hm, hb, -⟩ := hv.disk hd
  obtain ⟨W1, hW1⟩ : ∃ W, W = w.alloc (.cells (ic x).toArray 45 (0, 0)) := ⟨_, rfl⟩
  have hl1 : Below w.heap.size w W1 := by rw [hW1]; exact low_alloc _ _
  have hk1 : Bk W1 w.heap.size 45 (ic x) := by rw [hW1]; exact Bk.new w _ _
  have HW1 := Lib.hid hW1
  have HL1 := Lib.hid hl1
  have z1 : W1.cell? ⟨w.heap.size, 1, none⟩ = some (.int .i64 (x.size : Int)) := hk1.cell 1
  have f1 : (0 : Int) ≤ (x.size : Int) := by omega
  have q1 : IntKind.i64.wrap ((x.size : Int) / 128) = (x.size : Int) / 128 := IntWalk.i64_in _ (by omega)
  have q2 : (x.size : Int) / 128 = ((x.size / 128 : Nat) : Int) := by omega
  by_cases h0 : x.size % 128 = 0
  · have HR : Hid (Nd.tl d x = true) := by show _ = _; unfold Nd.tl; simp [h0]
    have f2 : ((x.size : Int) % 128) = 0 := by omega
    generalize x.size / 128 = k at *
    clear hv hv0 hd hW1 hk1 hl1 h0 hb96
    go_enter Try.func80, Try.ntmps80
    go_upto_region 1 with fail
    rw [← HW1.out]
    go_wp2_with fail
    go_ret
    exact ⟨ret_bool HR.out.symm, HL1.out⟩
  · have hlt : x.size / 128 < 12 := by omega
    have z2 : W1.cell? ⟨w.heap.size, 2 + x.size / 128, none⟩ = some (.int .i64 ((Nd.bk x (x.size / 128) : Nat) : Int)) := by rw [hk1.cell]; exact ic_bk hx hlt
    have f2 : ((x.size : Int) % 128 == 0) = false := by rw [beq_eq_false_iff_ne]; omega
    have f3 : ((x.size / 128 : Nat) : Int) < 12 := by omega
    have hk96 := hb96 _ hlt
    obtain ⟨r, hr⟩ : ∃ r, x.size % 128 = r := ⟨_, rfl⟩
    have hr1 : 0 < r ∧ r < 128 := by omega
    have HR : Hid (Nd.tl d x = (decide (Nd.bk x (x.size / 128) = 0) || Nd.zs ((d.drop (Nd.bk x (x.size / 128) * 128 + r)).take (128 - r)))) := by show _ = _; unfold Nd.tl; rw [hr, decide_eq_false (by omega), Bool.false_or]
    have q3 : (x.size : Int) % 128 = (r : Int) := by omega
    generalize x.size / 128 = k at *
    generalize Nd.bk x k = m at *
    by_cases hm0 : m = 0
    · have HR2 : Hid (Nd.tl d x = true) := by show _ = _; rw [HR.out, hm0]; rfl
      have f4 : (m : Int) = 0 := by omega
      clear hv hv0 hd hW1 hk1 hl1 h0 HR hr hm0
      go_enter Try.func80, Try.ntmps80
      go_upto_region 1 with fail
      rw [← HW1.out]
      go_wp2_with fail
      go_ret
      exact ⟨ret_bool HR2.out.symm, HL1.out⟩
    · have HR2 : Hid (Nd.tl d x = Nd.zs ((d.drop (m * 128 + r)).take (128 - r))) := by show _ = _; rw [HR.out, decide_eq_false hm0, Bool.false_or]
      have HZ : Hid (∀ n, Calls Try.prog 50 #[.slice (some ⟨b, off + m * 128 + r, none⟩) (128 - r) (cap - m * 128 - r)] (W1.drewN n) fun e w' => e = .returned (.bool (Nd.zs ((d.drop (m * 128 + r)).take (128 - r)))) ∧ w' = W1.drewN n) := fun n => by
        have hs := (hv0.below hl1 (Nat.le_refl _)).cut (m * 128 + r) (128 - r) (by omega)
        have hs2 : Sl eb (W1.drewN n) (.slice (some ⟨b, off + m * 128 + r, none⟩) (128 - r) (cap - m * 128 - r)) ((d.drop (m * 128 + r)).take (128 - r)) := by
          rw [Nat.add_assoc, Nat.sub_sub]
          exact hs.below (drewN_low _ _) (Nat.le_refl _)
        exact (rzeros_w hs2 (by rw [List.length_take]; omega)).mono fun _ _ h => ⟨h.1, h.2.symm⟩
      have HB : Hid (∀ n, Calls Try.prog 51 #[.slice (some ⟨b, off, none⟩) 12288 cap, .int .i64 (m : Int)] (W1.drewN n) fun e w' => e = .returned (.slice (some ⟨b, off + m * 128, none⟩) 128 (cap - m * 128)) ∧ w' = W1.drewN n) := fun n => (rblock_w b off cap m hk96 hc hm _).mono fun _ _ h => ⟨h.1, h.2.symm⟩
      generalize Nd.zs ((d.drop (m * 128 + r)).take (128 - r)) = res at *
      have f4 : ((m : Int) == 0) = false := by rw [beq_eq_false_iff_ne]; omega
      have f5 : (0 : Int) ≤ (r : Int) := by omega
      have f6 : (r : Int) ≤ 128 := by omega
      have f7 : ¬ cap - m * 128 = r := by omega
      unfold maxLen at hm
      clear hv hv0 hd hW1 hk1 hl1 h0 HR hr hm0
      go_enter Try.func80, Try.ntmps80
      go_upto_region 1 with fail
      rw [← HW1.out]
      go_upto_region 4 with fail
      go_quiet ((first | (go_at_call 51; exact Calls.quiet_of_same (HB.out _)) | (go_at_call 50; exact Calls.quiet_of_same (HZ.out _))))
      go_wp2_with fail
      go_ret
      exact ⟨ret_bool HR2.out.symm, stepAny HL1.out (drewN_low _ _)⟩

theorem rblock0_w (g cap k : Nat) (hk : k < 96) (hc : 12288 ≤ cap) (hm : cap ≤ maxLen) (w : World) :
    Calls Try.prog 51 #[.slice (some ⟨g, 0, none⟩) 12288 cap, .int .i64 (k : Int)] w fun e w' => e = .returned (.slice (some ⟨g, k * 128, none⟩) 128 (cap - k * 128)) ∧ w = w' := by
  have h := rblock_w g 0 cap k hk hc hm w
  rw [Nat.zero_add] at h
  exact h

theorem Jr.put_length {d : List UInt8} {p : Nat} {s : List UInt8} (h : p + s.length ≤ d.length) : (Jr.put d p s).length = d.length := Jr.put_len d p s h

set_option maxHeartbeats 1600000 in
theorem rtk_w {v : Value} {d : List UInt8} {w : World} (hv : Sl eb w v d) (hd : d.length = 12288) : Calls Try.prog 69 #[v] w fun e w' =>
    (Nd.takeN (Nd.bits d) 1 = ([], [], 13) ∧ e = .returned (.tuple #[.int .i64 0, .slice none 0 0, .int .i64 13]) ∧ Below w.heap.size w w') ∨
    ∃ (i : Nat) (g c : Nat), 18 ≤ i ∧ i < 96 ∧ Nd.takeN (Nd.bits d) 1 = ([i], Ex.putB (Nd.bits d) i true, 0) ∧ e = .returned (.tuple #[.int .i64 (i : Int), .slice (some ⟨g, 0, none⟩) 12288 c, .int .i64 0]) ∧
      w'.ownsRow w.heap.size 5 1 (.slice (some ⟨g, 0, none⟩) 12288 c) 12288 ((Nd.zeroB (Nd.putB d (Ex.putB (Nd.bits d) i true)) i).map eb) ∧ Below w.heap.size w w' := by
  have HV := Lib.hid hv
  obtain ⟨b, off, cap, rfl, hc, hm, hb, -⟩ := hv.disk hd
  have hbl : (Nd.bits d).length = 12 := Nd.bits_len hd
  have HB := Lib.hid (bitmap_w hv hd)
  have ht := Nd.take_eq hbl (n := 1) (Nat.le_refl _)
  have HD := Lib.hid hd
  have HBL := Lib.hid hbl
  clear hv hd
  rcases Nd.take_one (b := Nd.bits d) with h1 | ⟨i, hi1, hi2, -, h1⟩
  · have HT := Lib.hid (ht.trans h1)
    have H1 := Lib.hid h1
    clear ht h1 hbl
    go_enter Try.func69, Try.ntmps69
    go_wp2_with (first
      | (go_at_call 49; (with_reducible refine HB.out.mono ?_); rintro e w1 ⟨v1, rfl, ho1, hb1⟩)
      | (go_at_call 85; refine (ertake_w 18 96 1 (own_sl0 ho1 HBL.out) (by rw [HBL.out]; omega) (by omega) (by omega) HT.out).mono ?_; rintro e w2 ⟨v2, v3, rfl, hs2, hs3, hb2⟩))
    go_ret3
    exact .inl ⟨H1.out, rfl, hb1.trans (hb2.mono hb1.size)⟩
  · have HT := Lib.hid (ht.trans h1)
    have H1 := Lib.hid h1
    have HPL : Hid ((Ex.putB (Nd.bits d) i true).length ≤ 128) := by show _ ≤ _; rw [Ex.length_putB]; omega
    generalize hbe : Ex.putB (Nd.bits d) i true = b' at *
    have HBE := Lib.hid hbe
    clear hbe
    have hszu : (Try.prog.info? 5).map (·.size) = some 1 := by kernel_rfl
    obtain ⟨i0, hi0, hz0, hz1, hz2⟩ := info_parts Try.info5
    clear ht h1 hbl
    go_enter Try.func69, Try.ntmps69
    go_upto_region 5 with (first
      | (go_at_call 49; (with_reducible refine HB.out.mono ?_); rintro e w1 ⟨v1, rfl, ho1, hb1⟩)
      | (go_at_call 85; refine (ertake_w 18 96 1 (own_sl0 ho1 HBL.out) (by rw [HBL.out]; omega) (by omega) (by omega) HT.out).mono ?_; rintro e w2 ⟨v2, v3, rfl, hs2, hs3, hb2⟩; have hb02 := stepAny hb1 hb2; obtain ⟨a2, c2, rfl, hq1, hq2, hq3, hr2⟩ := hs2)
      | (go_at_call 59; refine (withBitmap_w (HV.out.below hb02 (Nat.le_refl _)) HD.out hs3 HPL.out).mono ?_; rintro e w3 ⟨v4, rfl, ho3, hb3⟩; obtain ⟨g, c, rfl⟩ := own_form ho3 (by omega)))
    obtain ⟨b2, off2, rfl, hlt2, hc2⟩ := hr2.form (by simp)
    have hbw3 : Below w.heap.size w w3 := stepAny hb02 hb3
    have hc30 : w2.cell? ⟨b2, off2, none⟩ = some (.int .i64 (i : Int)) := hc2 0 (by simp)
    have HC3 : Hid (∀ W, Below w3.heap.size w3 W → W.cell? ⟨b2, off2, none⟩ = some (.int .i64 (i : Int))) := fun W hW => by
      rw [hW.cell (p := ⟨b2, off2, none⟩) (Nat.lt_of_lt_of_le hlt2 hb3.size), hb3.cell (p := ⟨b2, off2, none⟩) hlt2]
      exact hc30
    have HO3 : Hid (∀ W, Below w3.heap.size w3 W → W.ownsRow w2.heap.size 5 1 (.slice (some ⟨g, 0, none⟩) 12288 c) 12288 ((Nd.putB d b').map eb)) := fun W hW => own_below ho3 hW
    have hm1 : ∀ W : World, (Instr.makeSlice 25 (.int .i64 128) (.int .i64 128)).run Try.prog W = .ok (.slice (some ⟨W.heap.size, 0, none⟩) 128 128) (W.alloc (.cells ((List.replicate 128 (0 : UInt8)).map eb).toArray 5 (0, 0))) := fun W => by
      have h := run_make (P := Try.prog) W 25 5 i0 (.int .u8 0) Try.underlying25 hi0 hz0 .i64 .i64 128 128 (by decide) (by decide) (by rw [hz2]; decide) (by decide)
      rw [hz1] at h
      rw [show (List.replicate 128 (0 : UInt8)).map eb = List.replicate 128 (.int .u8 0) by simp [eb], ← toList_made]
      exact h
    have HMO : Hid (∀ W : World, Sl eb (W.alloc (.cells ((List.replicate 128 (0 : UInt8)).map eb).toArray 5 (0, 0))).drew (.slice (some ⟨W.heap.size, 0, none⟩) 128 128) (List.replicate 128 (0 : UInt8))) := fun W => by
      have h := Bk.own (Bk.new W 5 ((List.replicate 128 (0 : UInt8)).map eb)) (Nat.le_refl _) (by simp [maxLen])
      exact Sl.below (own_sl0 (by simpa using h) (by simp)) (low_drew _) (Nat.le_refl _)
    generalize hzz : ((List.replicate 128 (0 : UInt8)).map eb).toArray = ZA at hm1 HMO
    have HBK := Lib.hid (fun W => rblock0_w g c i hi2 (own_bk' ho3).2.1 (own_bk' ho3).2.2.1 W)
    have hgb := ho3.lt g rfl
    have hlt3 : b2 < w3.heap.size := Nat.lt_of_lt_of_le hlt2 hb3.size
    have h28 : w.heap.size ≤ w2.heap.size := hb02.size
    have hfit : i * 128 + 128 ≤ 12288 := by omega
    have y0 := HC3.out w3.drew (low_drew _)
    have HY6 : Hid (∀ W : World, (w3.alloc (.cells ZA 5 (0, 0))).drew.grownBy W (some g) → W.cell? ⟨b2, off2, none⟩ = some (.int .i64 (i : Int))) := fun W hg =>
      (cell_far8 hg (Nat.ne_of_lt (Nat.lt_of_lt_of_le hlt2 hgb.1)) off2 (Nat.lt_of_lt_of_le hlt3 (low_adrew w3 (.cells ZA 5 (0, 0))).size)).trans (HC3.out _ (low_adrew w3 (.cells ZA 5 (0, 0))))
    have egB := enters_of Try.func51 (by kernel_rfl) rfl
    have HTK : Hid ((List.replicate 128 (0 : UInt8)).take 128 = List.replicate 128 0) := by show _ = _; simp
    clear hzz ho1 hb1 hs3 hb2 hq1 hq2 hq3 hr2 hc2 hc30 hb3
    go_region_held3 (fun w' => w'.cell? ⟨b2, off2, none⟩ = some (.int .i64 (i : Int))) (first | with_reducible assumption | exact HC3.out _ (low_adrew _ _) | go_keep) ((first
      | (refine step_call rfl 51 [.tmp 21, .tmp 24] #[25, 3] (by rfl) [.slice (some ⟨g, 0, none⟩) 12288 c, .int .i64 (i : Int)] (by rfl) egB (HBK.out _) ?_; rintro e w' ⟨rfl, rfl⟩; refine ⟨_, rfl, ?_⟩)
      | (refine step_copy_own8 rfl (.tmp 25) (.tmp 26) 25 25 rfl 5 Try.underlying25 hszu w2.heap.size g 12288 c (Nd.putB d b') (HO3.out _ (low_adrew _ _)) (i * 128) 128 (c - i * 128) rfl (by omega) (.slice (some ⟨w3.heap.size, 0, none⟩) 128 128) (List.replicate 128 0) rfl (HMO.out w3) ?_; intro w6 ho6 hg6; have y6 := HY6.out _ hg6)))
    all_goals
      go_wp2_with fail
      go_ret3
      rw [HTK.out] at ho6
      exact .inr ⟨i, g, c, hi1, hi2, by rw [HBE.out]; exact H1.out, rfl, by rw [HBE.out]; exact own_base ho6 h28, (stepAny hbw3 (low_adrew _ _)).trans (below_of_grown hg6 (Nat.le_trans h28 hgb.1) (stepAny hbw3 (low_adrew _ _)).size)⟩

theorem rrelease_w {v : Value} {d : List UInt8} {w : World} (hv : Sl eb w v d) (hd : d.length = 12288) (k : Nat) (hk : k < 96) : Calls Try.prog 70 #[v, .int .i64 (k : Int)] w fun e w' => ∃ v', e = .returned v' ∧ w'.ownsRow w.heap.size 5 1 v' 12288 ((Nd.putB d (Ex.putB (Nd.bits d) k false)).map eb) ∧ Below w.heap.size w w' := by
  have HV := Lib.hid hv
  obtain ⟨b, off, cap, rfl, hc, hm, hb, -⟩ := hv.disk hd
  have hbl : (Nd.bits d).length = 12 := Nd.bits_len hd
  have HB := Lib.hid (bitmap_w hv hd)
  have HD := Lib.hid hd
  have HBL := Lib.hid hbl
  have HS : Hid (Ex.setR (Nd.bits d) (k : Int) false = (Ex.putB (Nd.bits d) k false, 0)) := by show _ = _; unfold Ex.setR; rw [if_pos (by omega), Int.toNat_natCast]
  have HPL : Hid ((Ex.putB (Nd.bits d) k false).length ≤ 128) := by show _ ≤ _; rw [Ex.length_putB]; omega
  have HSW : Hid (∀ (W : World) (u : Value), Sl eb W u (Nd.bits d) → Calls Try.prog 52 #[u, .int .i64 (k : Int), .bool false] W fun e w' => ∃ v', e = .returned (.tuple #[v', .int .i64 0]) ∧ Sl eb w' v' (Ex.putB (Nd.bits d) k false) ∧ Below W.heap.size W w') := fun W u hu => by
    have h := erset_w (k : Int) false hu (by omega) (by omega)
    rw [HS.out] at h
    exact h
  clear hv hd hbl
  go_enter Try.func70, Try.ntmps70
  go_wp2_with (first
    | (go_at_call 49; (with_reducible refine HB.out.mono ?_); rintro e w1 ⟨v1, rfl, ho1, hb1⟩)
    | (go_at_call 52; refine (HSW.out _ _ (own_sl0 ho1 HBL.out)).mono ?_; rintro e w2 ⟨v2, rfl, hs2, hb2⟩; have hb02 := stepAny hb1 hb2)
    | (go_at_call 59; refine (withBitmap_w (HV.out.below hb02 (Nat.le_refl _)) HD.out hs2 HPL.out).mono ?_; rintro e w3 ⟨v4, rfl, ho3, hb3⟩))
  go_ret
  exact ⟨_, rfl, own_base ho3 hb02.size, stepAny hb02 hb3⟩
end Go.Proofs.Ytbklmpekpcneeaa
namespace Go.Proofs.Ytbklmpekpcneeaa
open Go.RowKit
set_option maxRecDepth 100000

theorem Try.fieldsRI : Try.prog.underlying 45 = some (.struct (Try.prog.fieldsOf 45)) := by kernel_rfl
theorem Try.fieldsRI' : (Try.prog.fieldsOf 45).toList.map (fun f => (f.name != "_", f.type, f.offset, Try.prog.cellsOf f.type)) = [(true, 3, 0, 1), (true, 3, 1, 1), (true, 40, 2, 12)] := by kernel_rfl

theorem lit_int (D : Nat) (n : Int) (h : (Lit.int .i64 n).wf = true) : Try.prog.keyLits (D + 1) 3 [.int .i64 n] = some [.int .i64 n] := by
  unfold Program.keyLits
  rw [Try.underlying3]
  simp [h]
theorem mapM_all {α β : Type} (f : α → Option β) (g : α → β) : ∀ (l : List α), (∀ x ∈ l, f x = some (g x)) → l.mapM f = some (l.map g)
  | [], _ => by simp
  | x :: l, h => by
    rw [List.mapM_cons, h x (.head _), mapM_all f g l fun y hy => h y (.tail _ hy)]
    rfl
theorem flat_one {α β : Type} (f : α → β) : ∀ l : List α, (l.map fun i => [f i]).flatten = l.map f
  | [] => rfl
  | x :: l => by simp [flat_one f l]
theorem lit_arr (D : Nat) (l : List Int) (hl : l.length = 12) (h : ∀ n ∈ l, (Lit.int .i64 n).wf = true) : Try.prog.keyLits (D + 2) 40 (l.map (Value.int .i64)) = some (l.map (Lit.int .i64)) := by
  unfold Program.keyLits
  rw [Try.underlying40]
  have e1 : Try.prog.cellsOf 40 = 12 := by kernel_rfl
  have e2 : Try.prog.cellsOf 3 = 1 := by kernel_rfl
  simp only [e1, e2, List.length_map, hl, if_true, Nat.mul_one]
  have h1 : ∀ i ∈ List.range 12, Try.prog.keyLits (D + 1) 3 (((l.map (Value.int .i64)).drop i).take 1) = some [Lit.int .i64 (l.getD i 0)] := fun i hi => by
    have hi' : i < 12 := by simpa using hi
    rw [List.drop_eq_getElem_cons (by simp [hl]; exact hi')]
    simp only [List.take_succ_cons, List.take_zero, List.getElem_map]
    rw [lit_int D _ (h _ (List.getElem_mem _))]
    simp [List.getD_eq_getElem?_getD, List.getElem?_eq_getElem (show i < l.length by omega)]
  rw [mapM_all _ (fun i => [Lit.int .i64 (l.getD i 0)]) _ h1]
  simp only [Option.map_some, Option.some.injEq]
  have h2 : (List.range 12).map (fun i => l.getD i 0) = l := by
    apply List.ext_getElem (by simp [hl])
    intro i h1 h2
    simp [List.getD_eq_getElem?_getD, List.getElem?_eq_getElem h2]
  conv => rhs; rw [← h2]
  rw [List.map_map]
  exact flat_one (fun i => Lit.int .i64 (l.getD i 0)) (List.range 12)

theorem lit_ino (D : Nat) (k z : Int) (l : List Int) (hl : l.length = 12) (h : ∀ n ∈ l, (Lit.int .i64 n).wf = true) (hk : (Lit.int .i64 k).wf = true) (hz : (Lit.int .i64 z).wf = true) :
    Try.prog.keyLits (D + 3) 45 (.int .i64 k :: .int .i64 z :: l.map (Value.int .i64)) = some (.int .i64 k :: .int .i64 z :: l.map (Lit.int .i64)) := by
  unfold Program.keyLits
  rw [Try.fieldsRI]
  have e1 : Try.prog.cellsOf 45 = 14 := by kernel_rfl
  have e2 : (Try.prog.fieldsOf 45).all (fun f => f.name != "_") = true := by kernel_rfl
  simp only [e1, e2, List.length_cons, List.length_map, hl, and_self, if_true]
  obtain ⟨f0, f1, f2, hf⟩ : ∃ f0 f1 f2, (Try.prog.fieldsOf 45).toList = [f0, f1, f2] := by
    have := congrArg List.length Try.fieldsRI'
    simp only [List.length_map] at this
    match h : (Try.prog.fieldsOf 45).toList, this with
    | [a, b, c], _ => exact ⟨a, b, c, rfl⟩
  have hq := Try.fieldsRI'
  rw [hf] at hq
  simp only [List.map_cons, List.map_nil, List.cons.injEq, Prod.mk.injEq, and_true] at hq
  obtain ⟨⟨-, t0, o0, c0⟩, ⟨-, t1, o1, c1⟩, -, t2, o2, c2⟩ := hq
  rw [hf]
  simp only [List.mapM_cons, List.mapM_nil, t0, t1, t2, o0, o1, o2, bind, Option.bind, pure]
  rw [t0] at c0
  rw [t2] at c2
  simp only [c0, c2, List.drop_zero, List.drop_succ_cons, List.take_succ_cons, List.take_zero, lit_int _ _ hk, lit_int _ _ hz]
  rw [List.take_of_length_le (by simp [hl]), lit_arr D l hl h]
  simp

theorem form_ino (x : Nd.Ino) (hx : x.bl.length = 12) : (Value.agg (ic x).toArray).formed Try.prog 45 = true := by
  have e1 : Try.prog.cellsOf 45 = 14 := by kernel_rfl
  unfold Value.formed
  rw [Try.fieldsRI]
  simp [e1, ic_len hx]

theorem eq_ino (x y : Nd.Ino) (hx : x.bl.length = 12) (hy : y.bl.length = 12) (bx : x.kind < 65536 ∧ x.size < 65536 ∧ ∀ n ∈ x.bl, n < 65536) (by_ : y.kind < 65536 ∧ y.size < 65536 ∧ ∀ n ∈ y.bl, n < 65536) (w : World) :
    (Op.equalIn 10000 45 (.agg (ic x).toArray) (.agg (ic y).toArray)).run Try.prog w = .ok (decide (x = y)) w := by
  have key : ∀ z : Nd.Ino, z.bl.length = 12 → z.kind < 65536 ∧ z.size < 65536 ∧ (∀ n ∈ z.bl, n < 65536) →
      Try.prog.keyLits 10 45 (ic z) = some (.int .i64 (z.kind : Int) :: .int .i64 (z.size : Int) :: (z.bl.map fun n : Nat => (n : Int)).map (Lit.int .i64)) := fun z hz b => by
    have h := lit_ino 7 (z.kind : Int) (z.size : Int) (z.bl.map fun n : Nat => (n : Int)) (by simp [hz]) (fun n hn => by
      obtain ⟨m, hm, rfl⟩ := List.mem_map.1 hn
      have := b.2.2 m hm
      exact WalkArith.wf_i64 (by omega)) (WalkArith.wf_i64 (by omega)) (WalkArith.wf_i64 (by omega))
    unfold ic
    rw [List.map_map] at h
    exact h
  have hd : (10000 : Nat) = 9990 + 10 := rfl
  rw [hd]
  obtain ⟨r, h1, h2⟩ := run_equalIn_deep (P := Try.prog) 9990 10 45 (by kernel_rfl) w 10 10 (.agg (ic x).toArray) (.agg (ic y).toArray) _ _ (form_ino x hx) (form_ino y hy) (by simpa [Value.cells] using key x hx bx) (by simpa [Value.cells] using key y hy by_)
  rw [h1]
  congr 1
  rw [Bool.eq_iff_iff, h2, decide_eq_true_iff, Nd.Ino.eta]
  simp only [List.cons.injEq, Lit.int.injEq, true_and, Int.natCast_inj]
  refine and_congr Iff.rfl (and_congr Iff.rfl ?_)
  constructor
  · intro h
    exact (List.map_inj_right (f := (Lit.int .i64) ∘ fun n : Nat => (n : Int)) (fun a b e => by simp only [Function.comp, Lit.int.injEq, true_and] at e; omega)).1 h
  · intro h; rw [h]
end Go.Proofs.Ytbklmpekpcneeaa
namespace Go.Proofs.Ytbklmpekpcneeaa
open Go.RowKit
set_option maxRecDepth 100000

theorem Nd.raw_len (d : List UInt8) (n : Nat) : (Nd.raw d n).bl.length = 12 := by simp [Nd.raw, Nd.dec]
theorem Nd.raw_bd (d : List UInt8) (n : Nat) : (Nd.raw d n).kind < 65536 ∧ (Nd.raw d n).size < 65536 ∧ ∀ m ∈ (Nd.raw d n).bl, m < 65536 := by
  unfold Nd.raw Nd.dec
  have h0 := (Nd.g d (Nd.at_ n)).toNat_lt
  have h1 := (Nd.g d (Nd.at_ n + 1)).toNat_lt
  have h2 := (Nd.g d (Nd.at_ n + 2)).toNat_lt
  refine ⟨Nat.lt_trans h0 (by decide), by simp only; omega, fun m hm => ?_⟩
  obtain ⟨i, -, rfl⟩ := List.mem_map.1 hm
  have := (Nd.g d (Nd.at_ n + 3 + i)).toNat_lt
  omega
theorem Nd.bk_lt {x : Nd.Ino} (h : ∀ m ∈ x.bl, m < 65536) (i : Nat) : Nd.bk x i < 65536 := by
  unfold Nd.bk
  rw [List.getD_eq_getElem?_getD]
  by_cases hi : i < x.bl.length
  · rw [List.getElem?_eq_getElem hi]
    exact h _ (List.getElem_mem hi)
  · rw [List.getElem?_eq_none (by omega)]
    decide

set_option maxHeartbeats 8000000 in
theorem rform_w {v : Value} {d : List UInt8} {w : World} (hv : Sl eb w v d) (hd : d.length = 12288) (n : Nat) (hn : n < 32) : Calls Try.prog 53 #[v, .int .i64 (n : Int)] w fun e w' => e = .returned (.bool (Nd.fm d n)) ∧ Below w.heap.size w w' := by
  have HV := Lib.hid hv
  have hraw := rraw_w hv hd n hn
  obtain ⟨b, off, cap, rfl, hc, hm, hb, hcell⟩ := hv.disk hd
  have HA := Lib.hid (rat_w n hn)
  have HB := Lib.hid (fun h => Nd.fm_byte (d := d) (n := n) h)
  have HF := Lib.hid (fun h h1 => Nd.fm_free (d := d) (n := n) h h1)
  have HG := Lib.hid (fun h h1 => Nd.fm_bad (d := d) (n := n) h h1)
  have HRT := Lib.hid (fun h h1 => Nd.fm_root (d := d) (n := n) h h1)
  have HE := Lib.hid (fun h h1 hk hs hr hq => Nd.fm_end (d := d) hd (n := n) h h1 hk hs hr hq)
  have HSN := Lib.hid (fun i (h : Nd.slot d (Nd.raw d n) i) => Nd.slot_near h)
  have HD := Lib.hid hd
  have hxl := Nd.raw_len d n
  have hxb := Nd.raw_bd d n
  have HTL : Hid (∀ x : Nd.Ino, x.bl.length = 12 → x.size ≤ 1536 → (∀ i, i < 12 → Nd.bk x i < 96) → ∀ W, Below w.heap.size w W → Calls Try.prog 80 #[.slice (some ⟨b, off, none⟩) 12288 cap, .agg (ic x).toArray] W fun e w' => e = .returned (.bool (Nd.tl d x)) ∧ Below W.heap.size W w') := fun x h1 h2 h3 W hW => rtail_w (HV.out.below hW (Nat.le_refl _)) hd x h1 h2 h3
  have HGD : Hid (∀ x : Nd.Ino, Nd.good d x → (x.kind = 1 ∨ x.kind = 2) ∧ x.size ≤ 1536 ∧ ∀ i, i < 12 → Nd.slot d x i) := fun x h => ⟨h.1, h.2.1, h.2.2.1⟩
  obtain ⟨p, hp⟩ : ∃ p, Nd.at_ n = p := ⟨_, rfl⟩
  have hp1 : p + 16 ≤ 12288 := by unfold Nd.at_ at hp; omega
  rw [hp] at HA HB HF HE
  unfold iv at hraw
  generalize Nd.raw d n = x at *
  have HX := Lib.hid hxl
  have HXB := Lib.hid hxb
  have HRW := Lib.hid hraw
  have HC : Hid (∀ W, Below w.heap.size w W → W.cell? ⟨b, off + (p + 15), none⟩ = some (.int .u8 ((Nd.g d (p + 15)).toNat : Int))) := fun W hW => hcell W hW (p + 15) (by omega)
  obtain ⟨xk, xz, xl⟩ := x
  simp only at HXB HRT HE HGD HTL
  obtain ⟨c0, c1, -⟩ := HXB.out
  unfold maxLen at hm
  have f1 : (0 : Int) ≤ (p : Int) := by omega
  have f2 : (p : Int) + 15 < 12288 := by omega
  have f3 : IntKind.i64.wrap ((p : Int) + 15) = (p : Int) + 15 := IntWalk.i64_in _ (by omega)
  clear hv hd hp hcell hraw hxl hxb
  go_enter Try.func53, Try.ntmps53
  go_upto_region 2 with (first
    | (go_at_call 47; (with_reducible refine HRW.out.mono ?_); rintro e w1 ⟨rfl, hb1⟩)
    | (refine wpList_store_part rfl 45 _ _ rfl w1.heap.size 0 14 (ic ⟨xk, xz, xl⟩) rfl rfl 45 [.int .i64 0, .int .i64 0, .int .i64 0, .int .i64 0, .int .i64 0, .int .i64 0, .int .i64 0, .int .i64 0, .int .i64 0, .int .i64 0, .int .i64 0, .int .i64 0, .int .i64 0, .int .i64 0] (Bk.new w1 _ [.int .i64 0, .int .i64 0, .int .i64 0, .int .i64 0, .int .i64 0, .int .i64 0, .int .i64 0, .int .i64 0, .int .i64 0, .int .i64 0, .int .i64 0, .int .i64 0, .int .i64 0, .int .i64 0]) (ic_len HX.out) (by simp) Try.sizeRI (ic_one _) ?_; intro w2 hk2 hg2))
  rw [splice_all _ _ (by rw [ic_len HX.out]; rfl)] at hk2
  have hl2 : Below w.heap.size w w2 := (stepAny hb1 (low_alloc w1 _)).trans (below_of_grown hg2 hb1.size (stepAny hb1 (low_alloc w1 _)).size)
  have HK2 := Lib.hid hk2
  have HL2 := Lib.hid hl2
  have z0 : w2.cell? ⟨w1.heap.size, 0, none⟩ = some (.int .i64 (xk : Int)) := hk2.cell 0
  have z1 : w2.cell? ⟨w1.heap.size, 1, none⟩ = some (.int .i64 (xz : Int)) := hk2.cell 1
  have y0 := HC.out w2 hl2
  obtain ⟨q, hq⟩ : ∃ q, Nd.g d (p + 15) = q := ⟨_, rfl⟩
  rw [hq] at y0 HB HF HE
  clear hb1 hg2 hk2 hl2 hq
  by_cases hq0 : q = 0
  rotate_left
  · have HR := Lib.hid (HB.out hq0)
    have f4 : ((q.toNat : Int) != 0) = true := eb_ne (y := 0) hq0
    clear hq0
    go_wp2_with (go_at_call 78; (with_reducible refine (HA.out _).mono ?_); rintro e w' ⟨rfl, rfl⟩)
    go_ret
    exact ⟨ret_bool HR.out.symm, HL2.out⟩
  · have f4 : ((q.toNat : Int) != 0) = false := by rw [hq0]; rfl
    have HQ0 := Lib.hid hq0
    clear hq0
    have heq : ∀ W, (Op.equalIn 10000 45 (.agg (ic ⟨xk, xz, xl⟩).toArray) (.agg #[.int .i64 0, .int .i64 0, .int .i64 0, .int .i64 0, .int .i64 0, .int .i64 0, .int .i64 0, .int .i64 0, .int .i64 0, .int .i64 0, .int .i64 0, .int .i64 0, .int .i64 0, .int .i64 0])).run Try.prog W = .ok (decide ((⟨xk, xz, xl⟩ : Nd.Ino) = Nd.free)) W := fun W => eq_ino ⟨xk, xz, xl⟩ Nd.free HX.out rfl HXB.out ⟨by decide, by decide, by decide⟩ W
    go_upto_region 4 with (go_at_call 78; (with_reducible refine (HA.out _).mono ?_); rintro e w' ⟨rfl, rfl⟩)
    by_cases hfr : (⟨xk, xz, xl⟩ : Nd.Ino) = Nd.free
    · have HR := Lib.hid (HF.out HQ0.out hfr)
      rw [decide_eq_true hfr] at heq
      clear hfr
      by_cases hn0 : n = 0
      · have f5 : (n : Int) = 0 := by omega
        have HR2 : Hid (Nd.fm d n = false) := by show _ = _; rw [HR.out, hn0]; rfl
        clear hn0
        go_wp2_with (refine wpList_load_ino rfl 45 _ rfl w1.heap.size rfl 45 ⟨xk, xz, xl⟩ HX.out HK2.out _ Try.underlying45 rfl Try.sizeRI ?_; unfold iv)
        go_ret
        exact ⟨ret_bool HR2.out.symm, HL2.out⟩
      · have f5 : ((n : Int) != 0) = true := by rw [bne_iff_ne]; omega
        have HR2 : Hid (Nd.fm d n = true) := by show _ = _; rw [HR.out]; simpa using hn0
        clear hn0
        go_wp2_with (refine wpList_load_ino rfl 45 _ rfl w1.heap.size rfl 45 ⟨xk, xz, xl⟩ HX.out HK2.out _ Try.underlying45 rfl Try.sizeRI ?_; unfold iv)
        go_ret
        exact ⟨ret_bool HR2.out.symm, HL2.out⟩
    · rw [decide_eq_false hfr] at heq
      have HFR := Lib.hid hfr
      clear hfr
      go_upto_region 6 with (refine wpList_load_ino rfl 45 _ rfl w1.heap.size rfl 45 ⟨xk, xz, xl⟩ HX.out HK2.out _ Try.underlying45 rfl Try.sizeRI ?_; unfold iv)
      by_cases hk1 : xk = 1 ∨ xk = 2
      rotate_left
      · have HR := Lib.hid (HG.out HFR.out fun h => hk1 (HGD.out _ h).1)
        have g1 : ((xk : Int) != 1) = true := by rw [bne_iff_ne]; omega
        have g2 : ((xk : Int) != 2) = true := by rw [bne_iff_ne]; omega
        clear hk1
        go_wp2_with fail
        go_ret
        exact ⟨ret_bool HR.out.symm, HL2.out⟩
      · have HK1 := Lib.hid hk1
        by_cases hz1 : xz ≤ 1536
        rotate_left
        · have HR := Lib.hid (HG.out HFR.out fun h => hz1 (HGD.out _ h).2.1)
          have g3 : (1536 : Int) < (xz : Int) := by omega
          rcases hk1 with hk1 | hk1
          · have g1 : ((xk : Int) != 1) = false := by rw [hk1]; rfl
            clear hk1 hz1
            go_wp2_with fail
            go_ret
            exact ⟨ret_bool HR.out.symm, HL2.out⟩
          · have g1 : ((xk : Int) != 1) = true := by rw [hk1]; rfl
            have g2 : ((xk : Int) != 2) = false := by rw [hk1]; rfl
            clear hk1 hz1
            go_wp2_with fail
            go_ret
            exact ⟨ret_bool HR.out.symm, HL2.out⟩
        · by_cases hr1 : n = 0 ∧ xk ≠ 2
          · obtain ⟨hn0, hk2⟩ := hr1
            have HR := Lib.hid (HRT.out hn0 hk2)
            have g3 : (xz : Int) ≤ 1536 := by omega
            have g1 : ((xk : Int) != 1) = false := by rw [show xk = 1 by omega]; rfl
            have g2 : ((xk : Int) != 2) = true := by rw [bne_iff_ne]; omega
            have g4 : (n : Int) = 0 := by omega
            clear hk1 hz1 hn0 hk2
            go_wp2_with fail
            go_ret
            exact ⟨ret_bool HR.out.symm, HL2.out⟩
          · have HE2 := Lib.hid (fun hq => HE.out HQ0.out HFR.out HK1.out hz1 (by omega) hq)
            have HZ1 := Lib.hid hz1
            have HG2 : Hid (∀ i, i < 12 → ¬ Nd.near ⟨xk, xz, xl⟩ i → Nd.fm d n = false) := fun i hi h => HG.out HFR.out fun hg => h (HSN.out i ((HGD.out _ hg).2.2 i hi))
            have g3 : (xz : Int) ≤ 1536 := by omega
            have e1 : ((xk : Int) != 1) = decide (xk = 2) ∧ ((xk : Int) != 2) = decide (xk = 1) ∧ ((xk : Int) == 1) = decide (xk = 1) := by
              rcases hk1 with rfl | rfl <;> exact ⟨rfl, rfl, rfl⟩
            have HLAST : Hid (∀ W, Below w2.heap.size w2 W → W.cell? ⟨w1.heap.size, 0, none⟩ = some (.int .i64 (xk : Int)) ∧ W.cell? ⟨w1.heap.size, 1, none⟩ = some (.int .i64 (xz : Int)) ∧ W.cell? ⟨w1.heap.size, 2, none⟩ = some (.int .i64 ((Nd.bk ⟨xk, xz, xl⟩ 0 : Nat) : Int))) := fun W hW => by
              have h := HK2.out.below hW HK2.out.lt
              exact ⟨h.cell 0, h.cell 1, by rw [h.cell]; exact ic_bk HX.out (i := 0) (by decide)⟩
            have HT2 : Hid ((∀ i, i < 12 → Nd.near ⟨xk, xz, xl⟩ i) → ∀ W, Below w2.heap.size w2 W → Calls Try.prog 80 #[.slice (some ⟨b, off, none⟩) 12288 cap, .agg (ic ⟨xk, xz, xl⟩).toArray] W fun e w' => e = .returned (.bool (Nd.tl d ⟨xk, xz, xl⟩)) ∧ Below W.heap.size W w') := fun h W hW => HTL.out _ HX.out HZ1.out (fun i hi => by rcases h i hi with h | h <;> omega) W (stepAny HL2.out hW)
            have hnr : ¬ ((n : Int) = 0 ∧ ¬ (xk = 2)) := by omega
            have HWAY : Hid (xk = 1 ∧ n ≠ 0 ∨ xk = 2) := by
              rcases hk1 with h | h
              · exact .inl ⟨h, by omega⟩
              · exact .inr h
            clear hk1 hz1 hr1 e1 hnr
            have HEND : Hid (∀ wr : World, wr = w2 → (∀ j, j < 12 → Nd.near ⟨xk, xz, xl⟩ j) → True) := fun _ _ _ => trivial
            rcases HWAY.out with ⟨h1, h0⟩ | h1
            · have g1 : ((xk : Int) != 1) = false := by rw [h1]; rfl
              have g2 : ((xk : Int) == 1) = true := by rw [h1]; rfl
              have g4 : ((n : Int) == 0) = false := by rw [beq_eq_false_iff_ne]; omega
              have HH1 := Lib.hid h1
              clear h1 h0
              go_upto_region 8 with fail
              go_wp2_with fail
              go_loopw [6, 7] (fun i _ wr => ∃ k : Nat, i = .int .i64 k ∧ k ≤ 12 ∧ wr = w2 ∧ Hid (∀ j, j < k → Nd.near ⟨xk, xz, xl⟩ j)) (fun i _ _ => 12 - (intOf i).toNat)
              case atStart => exact ⟨0, rfl, by omega, rfl, fun j h => absurd h (Nat.not_lt_zero _)⟩
              case round =>
                obtain ⟨k, rfl, hk, rfl, HN⟩ := hrel
                by_cases hlt : k < 12
                · have z2 : wr.cell? ⟨w1.heap.size, 2 + k, none⟩ = some (.int .i64 ((Nd.bk ⟨xk, xz, xl⟩ k : Nat) : Int)) := by rw [HK2.out.cell]; exact ic_bk HX.out hlt
                  have HGK := Lib.hid (HG2.out k hlt)
                  have HNK : Hid (Nd.near ⟨xk, xz, xl⟩ k → ∀ j, j < k + 1 → Nd.near ⟨xk, xz, xl⟩ j) := fun h j hj => by
                    by_cases e : j = k
                    · subst e; exact h
                    · exact HN.out j (by omega)
                  have hnear : Nd.near ⟨xk, xz, xl⟩ k ↔ (Nd.bk ⟨xk, xz, xl⟩ k = 0 ∨ (18 ≤ Nd.bk ⟨xk, xz, xl⟩ k ∧ Nd.bk ⟨xk, xz, xl⟩ k < 96 ∧ 128 * k < xz)) := Iff.rfl
                  have hmb := Nd.bk_lt (x := ⟨xk, xz, xl⟩) HXB.out.2.2 k
                  generalize Nd.bk ⟨xk, xz, xl⟩ k = m at *
                  have f5 : (0 : Int) ≤ (k : Int) := by omega
                  have f6 : (k : Int) < 12 := by omega
                  by_cases m0 : m = 0
                  · have HN2 := Lib.hid (HNK.out (hnear.2 (.inl m0)))
                    have g6 : ((m : Int) != 0) = false := by rw [m0]; rfl
                    clear hnear m0
                    go_wp2_with fail
                    go_roundw
                    case rel => exact ⟨k + 1, by go_num, by omega, by first | rfl | trivial, HN2.out⟩
                    case measure => simp [intOf]; omega
                  · have g6 : ((m : Int) != 0) = true := by rw [bne_iff_ne]; omega
                    by_cases m1 : m < 18
                    · have HR := Lib.hid (HGK.out fun h => by rw [hnear] at h; omega)
                      have g7 : (m : Int) < 18 := by omega
                      clear hnear m0 m1
                      go_wp2_with fail
                      go_ret
                      exact ⟨ret_bool HR.out.symm, HL2.out⟩
                    · have g7 : ¬ (m : Int) < 18 := by omega
                      by_cases m2 : 96 ≤ m
                      · have HR := Lib.hid (HGK.out fun h => by rw [hnear] at h; omega)
                        have g8 : (96 : Int) ≤ (m : Int) := by omega
                        clear hnear m0 m1 m2
                        go_wp2_with fail
                        go_ret
                        exact ⟨ret_bool HR.out.symm, HL2.out⟩
                      · have g8 : ¬ (96 : Int) ≤ (m : Int) := by omega
                        by_cases m3 : xz ≤ k * 128
                        · have HR := Lib.hid (HGK.out fun h => by rw [hnear] at h; omega)
                          have g9 : (xz : Int) ≤ (k : Int) * 128 := by omega
                          clear hnear m0 m1 m2 m3
                          go_wp2_with fail
                          go_ret
                          exact ⟨ret_bool HR.out.symm, HL2.out⟩
                        · have HN2 := Lib.hid (HNK.out (hnear.2 (.inr ⟨by omega, by omega, by omega⟩)))
                          have g9 : ¬ (xz : Int) ≤ (k : Int) * 128 := by omega
                          clear hnear m0 m1 m2 m3
                          go_wp2_with fail
                          go_roundw
                          case rel => exact ⟨k + 1, by go_num, by omega, by first | rfl | trivial, HN2.out⟩
                          case measure => simp [intOf]; omega
                · obtain rfl : k = 12 := by omega
                  have HEN := Lib.hid (HE2.out HN.out)
                  have HT3 := Lib.hid (HT2.out HN.out)
                  have HEN2 : Hid (Nd.fm d n = Nd.tl d ⟨xk, xz, xl⟩) := by
                    have h := HEN.out
                    rw [HH1.out] at h
                    show _ = _
                    rw [HH1.out, h]
                    simp
                  generalize Nd.tl d ⟨xk, xz, xl⟩ = t at *
                  obtain rfl : xk = 1 := HH1.out
                  clear g1 g2 z0 HH1 hk hlt
                  cases t with
                  | _ =>
                    go_wp2_with (first
                      | (refine wpList_load_ino rfl 45 _ rfl w1.heap.size rfl 45 ⟨1, xz, xl⟩ HX.out HK2.out _ Try.underlying45 rfl Try.sizeRI ?_; unfold iv)
                      | (go_at_call 80; (with_reducible refine (HT3.out _ (low_refl _)).mono ?_); rintro e w5 ⟨rfl, hb5⟩; obtain ⟨x0, x1, x2⟩ := HLAST.out _ hb5; (try replace x0 : w5.cell? ⟨w1.heap.size, 0, none⟩ = some (.int .i64 1) := x0); go_wp2_with fail; go_ret; exact ⟨ret_bool HEN2.out.symm, stepAny HL2.out hb5⟩))


            · have g1 : ((xk : Int) != 1) = true := by rw [h1]; rfl
              have g2 : ((xk : Int) != 2) = false := by rw [h1]; rfl
              have g5 : ((xk : Int) == 1) = false := by rw [h1]; rfl
              have HH1 := Lib.hid h1
              clear h1
              rcases Nat.eq_zero_or_pos n with hn0 | hn0
              · have g4 : ((n : Int) == 0) = true := by rw [hn0]; rfl
                clear hn0
                go_upto_region 8 with fail
                go_wp2_with fail
                go_loopw [6, 7] (fun i _ wr => ∃ k : Nat, i = .int .i64 k ∧ k ≤ 12 ∧ wr = w2 ∧ Hid (∀ j, j < k → Nd.near ⟨xk, xz, xl⟩ j)) (fun i _ _ => 12 - (intOf i).toNat)
                case atStart => exact ⟨0, rfl, by omega, rfl, fun j h => absurd h (Nat.not_lt_zero _)⟩
                case round =>
                  obtain ⟨k, rfl, hk, rfl, HN⟩ := hrel
                  by_cases hlt : k < 12
                  · have z2 : wr.cell? ⟨w1.heap.size, 2 + k, none⟩ = some (.int .i64 ((Nd.bk ⟨xk, xz, xl⟩ k : Nat) : Int)) := by rw [HK2.out.cell]; exact ic_bk HX.out hlt
                    have HGK := Lib.hid (HG2.out k hlt)
                    have HNK : Hid (Nd.near ⟨xk, xz, xl⟩ k → ∀ j, j < k + 1 → Nd.near ⟨xk, xz, xl⟩ j) := fun h j hj => by
                      by_cases e : j = k
                      · subst e; exact h
                      · exact HN.out j (by omega)
                    have hnear : Nd.near ⟨xk, xz, xl⟩ k ↔ (Nd.bk ⟨xk, xz, xl⟩ k = 0 ∨ (18 ≤ Nd.bk ⟨xk, xz, xl⟩ k ∧ Nd.bk ⟨xk, xz, xl⟩ k < 96 ∧ 128 * k < xz)) := Iff.rfl
                    have hmb := Nd.bk_lt (x := ⟨xk, xz, xl⟩) HXB.out.2.2 k
                    generalize Nd.bk ⟨xk, xz, xl⟩ k = m at *
                    have f5 : (0 : Int) ≤ (k : Int) := by omega
                    have f6 : (k : Int) < 12 := by omega
                    by_cases m0 : m = 0
                    · have HN2 := Lib.hid (HNK.out (hnear.2 (.inl m0)))
                      have g6 : ((m : Int) != 0) = false := by rw [m0]; rfl
                      clear hnear m0
                      go_wp2_with fail
                      go_roundw
                      case rel => exact ⟨k + 1, by go_num, by omega, by first | rfl | trivial, HN2.out⟩
                      case measure => simp [intOf]; omega
                    · have g6 : ((m : Int) != 0) = true := by rw [bne_iff_ne]; omega
                      by_cases m1 : m < 18
                      · have HR := Lib.hid (HGK.out fun h => by rw [hnear] at h; omega)
                        have g7 : (m : Int) < 18 := by omega
                        clear hnear m0 m1
                        go_wp2_with fail
                        go_ret
                        exact ⟨ret_bool HR.out.symm, HL2.out⟩
                      · have g7 : ¬ (m : Int) < 18 := by omega
                        by_cases m2 : 96 ≤ m
                        · have HR := Lib.hid (HGK.out fun h => by rw [hnear] at h; omega)
                          have g8 : (96 : Int) ≤ (m : Int) := by omega
                          clear hnear m0 m1 m2
                          go_wp2_with fail
                          go_ret
                          exact ⟨ret_bool HR.out.symm, HL2.out⟩
                        · have g8 : ¬ (96 : Int) ≤ (m : Int) := by omega
                          by_cases m3 : xz ≤ k * 128
                          · have HR := Lib.hid (HGK.out fun h => by rw [hnear] at h; omega)
                            have g9 : (xz : Int) ≤ (k : Int) * 128 := by omega
                            clear hnear m0 m1 m2 m3
                            go_wp2_with fail
                            go_ret
                            exact ⟨ret_bool HR.out.symm, HL2.out⟩
                          · have HN2 := Lib.hid (HNK.out (hnear.2 (.inr ⟨by omega, by omega, by omega⟩)))
                            have g9 : ¬ (xz : Int) ≤ (k : Int) * 128 := by omega
                            clear hnear m0 m1 m2 m3
                            go_wp2_with fail
                            go_roundw
                            case rel => exact ⟨k + 1, by go_num, by omega, by first | rfl | trivial, HN2.out⟩
                            case measure => simp [intOf]; omega
                  · obtain rfl : k = 12 := by omega
                    have HEN := Lib.hid (HE2.out HN.out)
                    have HT3 := Lib.hid (HT2.out HN.out)
                    have HEN2 : Hid (Nd.fm d n = (Nd.tl d ⟨xk, xz, xl⟩ && (decide (xz = 128) && decide (Nd.bk ⟨xk, xz, xl⟩ 0 ≠ 0)))) := by
                      have h := HEN.out
                      rw [HH1.out] at h ⊢
                      exact h
                    generalize Nd.tl d ⟨xk, xz, xl⟩ = t at *
                    generalize Nd.bk ⟨xk, xz, xl⟩ 0 = m at *
                    have hx1 : ((xz : Int) == 128) = decide (xz = 128) := by rw [Bool.eq_iff_iff]; simp; omega
                    have hx2 : ((m : Int) != 0) = decide (m ≠ 0) := by rw [Bool.eq_iff_iff]; simp
                    generalize decide (xz = 128) = t1 at *
                    generalize decide (m ≠ 0) = t2 at *
                    cases t <;> cases t1 <;> cases t2
                    all_goals
                      go_wp2_with (first
                        | (refine wpList_load_ino rfl 45 _ rfl w1.heap.size rfl 45 ⟨xk, xz, xl⟩ HX.out HK2.out _ Try.underlying45 rfl Try.sizeRI ?_; unfold iv)
                        | (go_at_call 80; (with_reducible refine (HT3.out _ (low_refl _)).mono ?_); rintro e w5 ⟨rfl, hb5⟩; obtain ⟨x0, x1, x2⟩ := HLAST.out _ hb5; (try replace x0 : w5.cell? ⟨w1.heap.size, 0, none⟩ = some (.int .i64 1) := x0); go_wp2_with fail; go_ret; exact ⟨ret_bool HEN2.out.symm, stepAny HL2.out hb5⟩))
  
  
              · have g4 : ((n : Int) == 0) = false := by rw [beq_eq_false_iff_ne]; omega
                clear hn0
                go_upto_region 8 with fail
                go_wp2_with fail
                go_loopw [6, 7] (fun i _ wr => ∃ k : Nat, i = .int .i64 k ∧ k ≤ 12 ∧ wr = w2 ∧ Hid (∀ j, j < k → Nd.near ⟨xk, xz, xl⟩ j)) (fun i _ _ => 12 - (intOf i).toNat)
                case atStart => exact ⟨0, rfl, by omega, rfl, fun j h => absurd h (Nat.not_lt_zero _)⟩
                case round =>
                  obtain ⟨k, rfl, hk, rfl, HN⟩ := hrel
                  by_cases hlt : k < 12
                  · have z2 : wr.cell? ⟨w1.heap.size, 2 + k, none⟩ = some (.int .i64 ((Nd.bk ⟨xk, xz, xl⟩ k : Nat) : Int)) := by rw [HK2.out.cell]; exact ic_bk HX.out hlt
                    have HGK := Lib.hid (HG2.out k hlt)
                    have HNK : Hid (Nd.near ⟨xk, xz, xl⟩ k → ∀ j, j < k + 1 → Nd.near ⟨xk, xz, xl⟩ j) := fun h j hj => by
                      by_cases e : j = k
                      · subst e; exact h
                      · exact HN.out j (by omega)
                    have hnear : Nd.near ⟨xk, xz, xl⟩ k ↔ (Nd.bk ⟨xk, xz, xl⟩ k = 0 ∨ (18 ≤ Nd.bk ⟨xk, xz, xl⟩ k ∧ Nd.bk ⟨xk, xz, xl⟩ k < 96 ∧ 128 * k < xz)) := Iff.rfl
                    have hmb := Nd.bk_lt (x := ⟨xk, xz, xl⟩) HXB.out.2.2 k
                    generalize Nd.bk ⟨xk, xz, xl⟩ k = m at *
                    have f5 : (0 : Int) ≤ (k : Int) := by omega
                    have f6 : (k : Int) < 12 := by omega
                    by_cases m0 : m = 0
                    · have HN2 := Lib.hid (HNK.out (hnear.2 (.inl m0)))
                      have g6 : ((m : Int) != 0) = false := by rw [m0]; rfl
                      clear hnear m0
                      go_wp2_with fail
                      go_roundw
                      case rel => exact ⟨k + 1, by go_num, by omega, by first | rfl | trivial, HN2.out⟩
                      case measure => simp [intOf]; omega
                    · have g6 : ((m : Int) != 0) = true := by rw [bne_iff_ne]; omega
                      by_cases m1 : m < 18
                      · have HR := Lib.hid (HGK.out fun h => by rw [hnear] at h; omega)
                        have g7 : (m : Int) < 18 := by omega
                        clear hnear m0 m1
                        go_wp2_with fail
                        go_ret
                        exact ⟨ret_bool HR.out.symm, HL2.out⟩
                      · have g7 : ¬ (m : Int) < 18 := by omega
                        by_cases m2 : 96 ≤ m
                        · have HR := Lib.hid (HGK.out fun h => by rw [hnear] at h; omega)
                          have g8 : (96 : Int) ≤ (m : Int) := by omega
                          clear hnear m0 m1 m2
                          go_wp2_with fail
                          go_ret
                          exact ⟨ret_bool HR.out.symm, HL2.out⟩
                        · have g8 : ¬ (96 : Int) ≤ (m : Int) := by omega
                          by_cases m3 : xz ≤ k * 128
                          · have HR := Lib.hid (HGK.out fun h => by rw [hnear] at h; omega)
                            have g9 : (xz : Int) ≤ (k : Int) * 128 := by omega
                            clear hnear m0 m1 m2 m3
                            go_wp2_with fail
                            go_ret
                            exact ⟨ret_bool HR.out.symm, HL2.out⟩
                          · have HN2 := Lib.hid (HNK.out (hnear.2 (.inr ⟨by omega, by omega, by omega⟩)))
                            have g9 : ¬ (xz : Int) ≤ (k : Int) * 128 := by omega
                            clear hnear m0 m1 m2 m3
                            go_wp2_with fail
                            go_roundw
                            case rel => exact ⟨k + 1, by go_num, by omega, by first | rfl | trivial, HN2.out⟩
                            case measure => simp [intOf]; omega
                  · obtain rfl : k = 12 := by omega
                    have HEN := Lib.hid (HE2.out HN.out)
                    have HT3 := Lib.hid (HT2.out HN.out)
                    have HEN2 : Hid (Nd.fm d n = (Nd.tl d ⟨xk, xz, xl⟩ && (decide (xz = 128) && decide (Nd.bk ⟨xk, xz, xl⟩ 0 ≠ 0)))) := by
                      have h := HEN.out
                      rw [HH1.out] at h ⊢
                      exact h
                    generalize Nd.tl d ⟨xk, xz, xl⟩ = t at *
                    generalize Nd.bk ⟨xk, xz, xl⟩ 0 = m at *
                    have hx1 : ((xz : Int) == 128) = decide (xz = 128) := by rw [Bool.eq_iff_iff]; simp; omega
                    have hx2 : ((m : Int) != 0) = decide (m ≠ 0) := by rw [Bool.eq_iff_iff]; simp
                    generalize decide (xz = 128) = t1 at *
                    generalize decide (m ≠ 0) = t2 at *
                    cases t <;> cases t1 <;> cases t2
                    all_goals
                      go_wp2_with (first
                        | (refine wpList_load_ino rfl 45 _ rfl w1.heap.size rfl 45 ⟨xk, xz, xl⟩ HX.out HK2.out _ Try.underlying45 rfl Try.sizeRI ?_; unfold iv)
                        | (go_at_call 80; (with_reducible refine (HT3.out _ (low_refl _)).mono ?_); rintro e w5 ⟨rfl, hb5⟩; obtain ⟨x0, x1, x2⟩ := HLAST.out _ hb5; (try replace x0 : w5.cell? ⟨w1.heap.size, 0, none⟩ = some (.int .i64 1) := x0); go_wp2_with fail; go_ret; exact ⟨ret_bool HEN2.out.symm, stepAny HL2.out hb5⟩))
  
  
end Go.Proofs.Ytbklmpekpcneeaa
namespace Go.Proofs.Ytbklmpekpcneeaa
open Go.RowKit
set_option maxRecDepth 100000

theorem ret_i {a b : Int} (h : b = a) : Ending.returned (.int .i64 a) = Ending.returned (.int .i64 b) := by rw [h]

set_option maxHeartbeats 8000000 in
theorem rcheck_w {v : Value} {d : List UInt8} {w : World} (hv : Sl eb w v d) (hd : d.length = 12288) : Calls Try.prog 22 #[v] w fun e w' => e = .returned (.int .i64 (Nd.check d)) ∧ Below w.heap.size w w' := by
  have HV := Lib.hid hv
  obtain ⟨b, off, cap, rfl, hc, hm, hb, hcell⟩ := hv.disk hd
  have HD := Lib.hid hd
  have HFM : Hid (∀ W, Below w.heap.size w W → ∀ n : Nat, n < 32 → Calls Try.prog 53 #[.slice (some ⟨b, off, none⟩) 12288 cap, .int .i64 (n : Int)] W fun e w' => e = .returned (.bool (Nd.fm d n)) ∧ Below W.heap.size W w') := fun W hW n hn => rform_w (HV.out.below hW (Nat.le_refl _)) hd n hn
  have HRW : Hid (∀ W, Below w.heap.size w W → ∀ n : Nat, n < 32 → Calls Try.prog 47 #[.slice (some ⟨b, off, none⟩) 12288 cap, .int .i64 (n : Int)] W fun e w' => e = .returned (.agg (ic (Nd.raw d n)).toArray) ∧ Below W.heap.size W w') := fun W hW n hn => rraw_w (HV.out.below hW (Nat.le_refl _)) hd n hn
  have HBM : Hid (∀ W, Below w.heap.size w W → Calls Try.prog 49 #[.slice (some ⟨b, off, none⟩) 12288 cap] W fun e w' => ∃ a c, e = .returned (.slice a 12 c) ∧ Sl eb w' (.slice a 12 c) (Nd.bits d) ∧ Below W.heap.size W w') := fun W hW => (bitmap_w (HV.out.below hW (Nat.le_refl _)) hd).mono fun e w' h => by
    obtain ⟨v', rfl, ho, hb⟩ := h
    have hs := own_sl0 ho (Nd.bits_len hd)
    obtain ⟨a, c, rfl, -⟩ := id hs
    rw [Nd.bits_len hd] at hs
    exact ⟨a, c, by rw [Nd.bits_len hd], hs, hb⟩
  have HBK : Hid (∀ W, Calls Try.prog 51 #[.slice (some ⟨b, off, none⟩) 12288 cap, .int .i64 13] W fun e w' => e = .returned (.slice (some ⟨b, off + 1664, none⟩) 128 (cap - 1664)) ∧ W = w') := fun W => rblock_w b off cap 13 (by omega) hc hm W
  have HZ1 : Hid (∀ W, Below w.heap.size w W → Calls Try.prog 50 #[.slice (some ⟨b, off + 4, none⟩) 124 (cap - 4)] W fun e w' => e = .returned (.bool (Nd.zs ((d.drop 4).take 124))) ∧ W = w') := fun W hW => by
    have h := rzeros_w ((hv.cut 4 124 (by omega)).below hW (Nat.le_refl _)) (by rw [List.length_take]; omega)
    simpa using h
  have HZ2 : Hid (∀ W, Below w.heap.size w W → Calls Try.prog 50 #[.slice (some ⟨b, off + 1664 + 12, none⟩) 116 (cap - 1664 - 12)] W fun e w' => e = .returned (.bool (Nd.zs ((d.drop 1676).take 116))) ∧ W = w') := fun W hW => by
    have h := rzeros_w ((hv.cut 1676 116 (by omega)).below hW (Nat.le_refl _)) (by rw [List.length_take]; omega)
    simpa [Nat.add_assoc, Nat.sub_sub] using h
  have HSW : Hid (∀ (W : World) (u : Value) (xs : List UInt8) (k : Nat), Sl eb W u xs → xs.length = 12 → k < 96 → Calls Try.prog 52 #[u, .int .i64 (k : Int), .bool true] W fun e w' => ∃ a c, e = .returned (.tuple #[.slice a 12 c, .int .i64 0]) ∧ Sl eb w' (.slice a 12 c) (Ex.putB xs k true) ∧ Below W.heap.size W w') := fun W u xs k hu hl hk => by
    have h := erset_w (k : Int) true hu (by omega) (by omega)
    rw [show Ex.setR xs (k : Int) true = (Ex.putB xs k true, 0) by unfold Ex.setR; rw [if_pos (by omega), Int.toNat_natCast]] at h
    refine h.mono fun e w' h => ?_
    obtain ⟨v', rfl, hs, hb⟩ := h
    obtain ⟨a, c, rfl, -⟩ := id hs
    rw [Ex.length_putB, hl] at hs ⊢
    exact ⟨a, c, rfl, hs, hb⟩
  have HGT : Hid (∀ (W : World) (a : Option Addr) (c : Nat) (xs : List UInt8) (k : Nat), Sl eb W (.slice a 12 c) xs → xs.length = 12 → k < 96 → Calls Try.prog 54 #[.slice a 12 c, .int .i64 (k : Int)] W fun e w' => e = .returned (.bool (Ex.getB xs (k : Nat))) ∧ W = w') := fun W a c xs k hu hl hk => by
    obtain ⟨a2, c2, e, -, -, -, hr⟩ := hu
    injection e with e1 e2 e3
    subst e1 e3
    exact erget_w _ _ 12 xs (k : Int) W hl (by omega) hr (by omega)
  have HH := Lib.hid (Nd.check_hdr hd)
  have HF := Lib.hid (fun n hn h => Nd.check_fm hd (n := n) hn h)
  have HT := Lib.hid (fun n i hn hi h0 h => Nd.check_twice hd (n := n) (i := i) hn hi h0 h)
  have HE := Lib.hid (fun h hf hn => Nd.check_end hd h hf hn)
  have hcv0 : ∀ W, Below w.heap.size w W → (convert 25 9 (.slice (some ⟨b, off, none⟩) 4 cap)).run Try.prog W = .ok (.string ⟨(d.take 4).toArray⟩) W := fun W hW => conv_sl (w := W) (by
    have h := (hv.cut 0 4 (by omega)).below hW (Nat.le_refl _)
    simpa using h)
  have hcv := hcv0 w (Below.refl _ w)
  unfold maxLen at hm
  have f1 : (4 : Int) ≤ (cap : Int) := by omega
  have f2 : 4 ≤ cap := by omega
  have hhd : Nd.hdr d = (decide (d.take 4 = [82, 70, 83, 49]) && (Nd.zs ((d.drop 4).take 124) && Nd.zs ((d.drop 1676).take 116))) := rfl
  generalize Nd.zs ((d.drop 4).take 124) = t1 at *
  generalize Nd.zs ((d.drop 1676).take 116) = t2 at *
  have HHD := Lib.hid hhd
  clear hv hd hcell hcv0 hhd
  by_cases hmg : d.take 4 = [82, 70, 83, 49]
  rotate_left
  · have HR := Lib.hid (HH.out (by rw [HHD.out, decide_eq_false hmg, Bool.false_and]))
    obtain ⟨n1, n2⟩ := str_ne hmg
    clear HHD
    generalize d.take 4 = l4 at *
    clear hmg
    go_enter Try.func22, Try.ntmps22
    go_wp2_with fail
    go_ret
    exact ⟨ret_i HR.out, Below.refl _ w⟩
  rw [hmg] at hcv
  have HMG := Lib.hid hmg
  clear hmg
  cases t1 with
  | false =>
    have HR := Lib.hid (HH.out (by rw [HHD.out]; simp))
    go_enter Try.func22, Try.ntmps22
    go_wp2_with (first | (go_at_call 50; (with_reducible refine (HZ1.out _ (Below.refl _ w)).mono ?_); rintro e w' ⟨rfl, rfl⟩))
    go_ret
    exact ⟨ret_i HR.out, Below.refl _ w⟩
  | true =>
  cases t2 with
  | false =>
    have HR := Lib.hid (HH.out (by rw [HHD.out]; simp))
    go_enter Try.func22, Try.ntmps22
    go_wp2_with (first
      | (go_at_call 50; (with_reducible refine (HZ1.out _ (Below.refl _ w)).mono ?_); rintro e w' ⟨rfl, rfl⟩)
      | (go_at_call 50; (with_reducible refine (HZ2.out _ (Below.refl _ w)).mono ?_); rintro e w' ⟨rfl, rfl⟩)
      | (go_at_call 51; (with_reducible refine (HBK.out _).mono ?_); rintro e w' ⟨rfl, rfl⟩))
    go_ret
    exact ⟨ret_i HR.out, Below.refl _ w⟩
  | true =>
  have HH1 : Hid (Nd.hdr d = true) := by show _ = _; rw [HHD.out, HMG.out]; rfl
  clear HHD HH HMG
  go_enter Try.func22, Try.ntmps22
  go_upto_region 5 with (first
    | (go_at_call 50; (with_reducible refine (HZ1.out _ (Below.refl _ w)).mono ?_); rintro e w' ⟨rfl, rfl⟩)
    | (go_at_call 50; (with_reducible refine (HZ2.out _ (Below.refl _ w)).mono ?_); rintro e w' ⟨rfl, rfl⟩)
    | (go_at_call 51; (with_reducible refine (HBK.out _).mono ?_); rintro e w' ⟨rfl, rfl⟩))
  clear HZ1 HZ2 HBK hcv
  obtain ⟨i0, hi0, hz0, hz1, hz2⟩ := info_parts Try.info5
  have hm1 : (Instr.makeSlice 25 (.int .i64 12) (.int .i64 12)).run Try.prog w = .ok (.slice (some ⟨w.heap.size, 0, none⟩) 12 12) (w.alloc (.cells ((List.replicate 12 (0 : UInt8)).map eb).toArray 5 (0, 0))) := by
    have h := run_make (P := Try.prog) w 25 5 i0 (.int .u8 0) Try.underlying25 hi0 hz0 .i64 .i64 12 12 (by decide) (by decide) (by rw [hz2]; decide) (by decide)
    rw [hz1] at h
    rw [show (List.replicate 12 (0 : UInt8)).map eb = List.replicate 12 (.int .u8 0) by simp [eb], ← toList_made]
    exact h
  have hs0 : Sl eb (w.alloc (.cells ((List.replicate 12 (0 : UInt8)).map eb).toArray 5 (0, 0))) (.slice (some ⟨w.heap.size, 0, none⟩) 12 12) (List.replicate 12 (0 : UInt8)) := by
    have h := Bk.own (Bk.new w 5 ((List.replicate 12 (0 : UInt8)).map eb)) (Nat.le_refl _) (by simp [maxLen])
    exact own_sl0 (by simpa using h) (by simp)
  have HL0 : Hid (Below w.heap.size w (w.alloc (.cells ((List.replicate 12 (0 : UInt8)).map eb).toArray 5 (0, 0)))) := low_alloc _ _
  generalize ((List.replicate 12 (0 : UInt8)).map eb).toArray = ZA at *
  have HS0 := Lib.hid hs0
  clear hs0
  go_wp2_with fail
  go_loopw [3, 4] (fun wv i wr => ∃ (k : Nat) (a : Option Addr) (c : Nat), wv = .slice a 12 c ∧ i = .int .i64 k ∧ k ≤ 18 ∧ Sl eb wr (.slice a 12 c) (Ex.puts (List.replicate 12 0) (List.range k) true) ∧ Below w.heap.size w wr) (fun _ i _ => 18 - (intOf i).toNat)
  case atStart => exact ⟨0, _, _, rfl, rfl, by omega, HS0.out, HL0.out⟩
  case round =>
    obtain ⟨k, a, c, rfl, rfl, hk, hs, hl⟩ := hrel
    by_cases hlt : k < 18
    · have HC := Lib.hid (HSW.out wr _ _ k hs (by rw [Ex.length_puts]; rfl) (by omega))
      have HNX : Hid (Ex.putB (Ex.puts (List.replicate 12 0) (List.range k) true) k true = Ex.puts (List.replicate 12 0) (List.range (k + 1)) true) := by show _ = _; rw [List.range_succ, Ex.puts_snoc]
      have HL := Lib.hid hl
      have f5 : (0 : Int) ≤ (k : Int) := by omega
      have f6 : (k : Int) < 18 := by omega
      clear hs hl
      go_wp2_with (go_at_call 52; (with_reducible refine HC.out.mono ?_); rintro e w1 ⟨a1, c1, rfl, hs1, hb1⟩)
      go_roundw
      case rel => exact ⟨k + 1, a1, c1, rfl, by go_num, by omega, by rw [HNX.out] at hs1; exact hs1, stepAny HL.out hb1⟩
      case measure => simp [intOf]; omega
    · have hk18 : k = 18 := by omega
      have f5 : ¬ (k : Int) < 18 := by omega
      have hs : Sl eb wr (.slice a 12 c) (Nd.want d 0 0) := by rw [hk18] at hs; exact hs
      have HS := Lib.hid hs
      have HL := Lib.hid hl
      clear hs hl hk hlt hk18
      go_upto_region 10 with fail
      go_wp2_with fail
      go_loopw [3, 5, 6, 7] (fun wv nv _ _ wr => ∃ (n : Nat) (a : Option Addr) (c : Nat), wv = .slice a 12 c ∧ nv = .int .i64 n ∧ n ≤ 32 ∧ Sl eb wr (.slice a 12 c) (Nd.want d n 0) ∧ Hid (∀ m, m < n → Nd.fm d m = true) ∧ Hid ((Nd.seen d n 0).Nodup) ∧ Below w.heap.size w wr) (fun _ i _ _ _ => 32 - (intOf i).toNat)
      case atStart => exact ⟨0, _, _, rfl, rfl, by omega, HS.out, fun m h => absurd h (Nat.not_lt_zero _), (by rw [Nd.seen_zero]; exact List.nodup_nil : (Nd.seen d 0 0).Nodup), HL.out⟩
      case round =>
        clear HS HL
        obtain ⟨n, a, c, rfl, rfl, hn, hs, HFN, HSN, hl⟩ := hrel
        by_cases hlt : n < 32
        · have HC := Lib.hid (HFM.out wr hl n hlt)
          have HF1 := Lib.hid (HF.out n hlt)
          have HT1 := Lib.hid (fun i hi h0 h => HT.out n i hlt hi h0 h)
          have HNX := Lib.hid (Nd.seen_next d hlt)
          have HWX : Hid (Nd.want d n 12 = Nd.want d (n + 1) 0) := by show _ = _; unfold Nd.want; rw [Nd.seen_next d hlt]
          have HFR := Lib.hid (fun (h : Nd.fm d n = true) i hi h0 => Nd.fm_range h (i := i) hi h0)
          have HSR := Lib.hid (fun (h : Nd.fm d n = true) i => Nd.seen_range (d := d) (n := n) (by omega) HFN.out i (.inr ⟨hlt, h⟩))
          have HFX : Hid (Nd.fm d n = true → ∀ m, m < n + 1 → Nd.fm d m = true) := fun h m hm => by
            by_cases e : m = n
            · subst e; exact h
            · exact HFN.out m (by omega)
          have HS := Lib.hid hs
          have HL := Lib.hid hl
          have f5 : (0 : Int) ≤ (n : Int) := by omega
          have f6 : (n : Int) < 32 := by omega
          clear hs hl
          cases hfm : Nd.fm d n with
          | false =>
            rw [hfm] at HC
            have HR := Lib.hid (HF1.out hfm)
            clear hfm
            go_wp2_with (go_at_call 53; (with_reducible refine HC.out.mono ?_); rintro e w1 ⟨rfl, hb1⟩)
            go_ret
            exact ⟨ret_i HR.out, stepAny HL.out hb1⟩
          | true =>
            rw [hfm] at HC
            have HFX2 := Lib.hid (HFX.out hfm)
            have HFR2 := Lib.hid (HFR.out hfm)
            have HSR2 := Lib.hid (HSR.out hfm)
            have HRN := Lib.hid (Nd.raw_len d n)
            have HST := Lib.hid (fun i hi => Nd.want_step d n (i := i) hi)
            have HWB := Lib.hid (fun i b => Nd.want_bit (HSR2.out i) b)
            have HND := Lib.hid (fun i hi h hm => Nd.seen_nodup (d := d) (n := n) (i := i) hi h hm)
            have HWL := Lib.hid (fun i => Nd.want_len d n i)
            clear hfm HFR HSR HFX
            have HRW1 := Lib.hid (fun W hW => HRW.out W hW n hlt)
            generalize hx : Nd.raw d n = x at *
            clear hx
            go_upto_region 16 with (first
              | (go_at_call 53; (with_reducible refine HC.out.mono ?_); rintro e w1 ⟨rfl, hb1⟩; have hl1 := stepAny HL.out hb1)
              | (go_at_call 47; (with_reducible refine (HRW1.out _ hl1).mono ?_); rintro e w2 ⟨rfl, hb2⟩)
              | (refine wpList_store_part rfl 45 _ _ rfl w2.heap.size 0 14 (ic x) rfl rfl 45 [.int .i64 0, .int .i64 0, .int .i64 0, .int .i64 0, .int .i64 0, .int .i64 0, .int .i64 0, .int .i64 0, .int .i64 0, .int .i64 0, .int .i64 0, .int .i64 0, .int .i64 0, .int .i64 0] (Bk.new w2 _ [.int .i64 0, .int .i64 0, .int .i64 0, .int .i64 0, .int .i64 0, .int .i64 0, .int .i64 0, .int .i64 0, .int .i64 0, .int .i64 0, .int .i64 0, .int .i64 0, .int .i64 0, .int .i64 0]) (ic_len HRN.out) (by simp) Try.sizeRI (ic_one _) ?_; intro w3 hk3 hg3))
            rw [splice_all _ _ (by rw [ic_len HRN.out]; rfl)] at hk3
            have hl2 := stepAny hl1 hb2
            have hb23 : Below w2.heap.size w2 w3 := (low_alloc w2 _).trans (below_of_grown hg3 (Nat.le_refl _) (low_alloc w2 _).size)
            have HL3 := Lib.hid (stepAny hl2 hb23)
            have HS3 := Lib.hid (((HS.out.below hb1 (Nat.le_refl _)).below hb2 (Nat.le_refl _)).below hb23 (Nat.le_refl _))
            obtain ⟨bx, hbx⟩ : ∃ y, y = w2.heap.size := ⟨_, rfl⟩
            rw [← hbx] at hk3 ⊢
            have HBX : Hid (w.heap.size ≤ bx) := by show _ ≤ _; rw [hbx]; exact hl2.size
            have HK3 := Lib.hid hk3
            clear hbx hk3 hg3 hb23 hl2 hb2 hl1 hb1 HS HL HC HRW1
            go_wp2_with fail
            go_loopw [3, 7] (fun wv jv wr' => ∃ (j : Nat) (a : Option Addr) (c : Nat), wv = .slice a 12 c ∧ jv = .int .i64 j ∧ j ≤ 12 ∧ Sl eb wr' (.slice a 12 c) (Nd.want d n j) ∧ Hid ((Nd.seen d n j).Nodup) ∧ Bk wr' bx 45 (ic x) ∧ Below w.heap.size w wr') (fun _ i _ => 12 - (intOf i).toNat)
            case atStart => exact ⟨0, _, _, rfl, rfl, by omega, HS3.out, HSN, HK3.out, HL3.out⟩
            case round =>
              clear HS3 HK3 HL3
              rename World => wj
              obtain ⟨j, a, c, rfl, rfl, hj, hs, HSJ, hkb, hl⟩ := hrel
              by_cases hjl : j < 12
              · have z0 : wj.cell? ⟨bx, 2 + j, none⟩ = some (.int .i64 ((Nd.bk x j : Nat) : Int)) := by rw [hkb.cell]; exact ic_bk HRN.out hjl
                have HTJ := Lib.hid (HT1.out j hjl)
                have HRJ := Lib.hid (HFR2.out j hjl)
                have HSTJ := Lib.hid (HST.out j hjl)
                have HBJ := Lib.hid (HWB.out j (Nd.bk x j))
                have HNJ := Lib.hid (HND.out j hjl HSJ.out)
                generalize Nd.bk x j = m at *
                have HS := Lib.hid hs
                have HL := Lib.hid hl
                have HKB := Lib.hid hkb
                have g5 : (0 : Int) ≤ (j : Int) := by omega
                have g6 : (j : Int) < 12 := by omega
                clear hs hl hkb
                by_cases m0 : m = 0
                · have HSX : Hid (Nd.want d n (j + 1) = Nd.want d n j) := by show _ = _; rw [HSTJ.out, if_pos m0]
                  have HNX2 := Lib.hid (HNJ.out fun h => absurd m0 h)
                  have g7 : ((m : Int) == 0) = true := by rw [m0]; rfl
                  clear m0
                  go_wp2_with fail
                  go_roundw
                  case rel => exact ⟨j + 1, a, c, rfl, by go_num, by omega, by rw [HSX.out]; exact HS.out, HNX2, HKB.out, HL.out⟩
                  case measure => simp [intOf]; omega
                · have g7 : ((m : Int) == 0) = false := by rw [beq_eq_false_iff_ne]; omega
                  have hr := HRJ.out m0
                  have HGJ := Lib.hid (HGT.out wj a c _ m HS.out (HWL.out j) hr.2)
                  by_cases hmem : m ∈ Nd.seen d n j
                  · have HR := Lib.hid (HTJ.out m0 hmem)
                    have e : Ex.getB (Nd.want d n j) (m : Nat) = true := by rw [HBJ.out, decide_eq_true (.inr hmem)]
                    rw [e] at HGJ
                    clear e m0 hr hmem
                    go_wp2_with (go_at_call 54; (with_reducible refine HGJ.out.mono ?_); rintro e w' ⟨rfl, rfl⟩)
                    go_ret
                    exact ⟨ret_i HR.out, HL.out⟩
                  · have e : Ex.getB (Nd.want d n j) (m : Nat) = false := by rw [HBJ.out, decide_eq_false (fun h => h.elim (fun h => by omega) hmem)]
                    rw [e] at HGJ
                    have HSX : Hid (Nd.want d n (j + 1) = Ex.putB (Nd.want d n j) m true) := by show _ = _; rw [HSTJ.out, if_neg m0]
                    have HNX2 := Lib.hid (HNJ.out fun _ => hmem)
                    have HSS := Lib.hid (HSW.out wj _ _ m HS.out (HWL.out j) hr.2)
                    clear e m0 hr hmem
                    go_wp2_with (first
                      | (go_at_call 54; (with_reducible refine HGJ.out.mono ?_); rintro e w' ⟨rfl, rfl⟩)
                      | (go_at_call 52; (with_reducible refine HSS.out.mono ?_); rintro e w4 ⟨a4, c4, rfl, hs4, hb4⟩))
                    go_roundw
                    case rel => exact ⟨j + 1, a4, c4, rfl, by go_num, by omega, by rw [HSX.out]; exact hs4, HNX2, HKB.out.below hb4 HKB.out.lt, stepAny HL.out hb4⟩
                    case measure => simp [intOf]; omega
              · obtain rfl : j = 12 := by omega
                rw [HWX.out] at hs
                rw [HNX.out] at HSJ
                have HS := Lib.hid hs
                have HL := Lib.hid hl
                clear hs hl hkb
                go_wp2_with fail
                go_roundw
                case rel => exact ⟨n + 1, a, c, rfl, by go_num, by omega, HS.out, HFX2, HSJ, HL.out⟩
                case measure => simp [intOf]; omega
        · obtain rfl : n = 32 := by omega
          have HER := Lib.hid (HE.out HH1.out HFN.out (by rw [← Nd.seen_all]; exact HSN.out))
          have HS := Lib.hid hs
          have HL := Lib.hid hl
          have HCV : Hid (∀ W, Below wr.heap.size wr W → (convert 25 9 (.slice a 12 c)).run Try.prog W = .ok (.string ⟨(Nd.want d 32 0).toArray⟩) W) := fun W hW => conv_sl (w := W) (HS.out.below hW (Nat.le_refl _))
          have HBM1 : Hid (∀ W, Below wr.heap.size wr W → Calls Try.prog 49 #[.slice (some ⟨b, off, none⟩) 12288 cap] W fun e w' => ∃ a c, e = .returned (.slice a 12 c) ∧ Sl eb w' (.slice a 12 c) (Nd.bits d) ∧ Below W.heap.size W w') := fun W hW => HBM.out W (stepAny HL.out hW)
          clear hs hl
          go_upto_region 23 with fail
          have hl0 := low_drew wr
          by_cases hww : Nd.want d 32 0 = Nd.bits d
          · rw [if_pos hww] at HER
            rw [hww] at HCV
            clear hww
            generalize Nd.bits d = bd at *
            have hcv1 := HCV.out _ hl0
            go_region_with (first | (go_at_call 49; (with_reducible refine (HBM1.out _ (by with_reducible assumption)).mono ?_); rintro e w5 ⟨a5, c5, rfl, hs5, hb5⟩; have hl5 := stepAny hl0 hb5; have hcvw := HCV.out _ hl5; have hcv5 := conv_sl (w := w5) hs5))
            all_goals (go_wp2_with fail)
            all_goals go_ret
            all_goals exact ⟨ret_i HER.out, stepAny HL.out hl5⟩
          · rw [if_neg hww] at HER
            obtain ⟨n1, n2⟩ := str_ne hww
            clear hww
            generalize Nd.bits d = bd at *
            generalize Nd.want d 32 0 = wd at *
            have hcv1 := HCV.out _ hl0
            go_region_with (first | (go_at_call 49; (with_reducible refine (HBM1.out _ (by with_reducible assumption)).mono ?_); rintro e w5 ⟨a5, c5, rfl, hs5, hb5⟩; have hl5 := stepAny hl0 hb5; have hcvw := HCV.out _ hl5; have hcv5 := conv_sl (w := w5) hs5))
            all_goals (go_wp2_with fail)
            all_goals go_ret
            all_goals exact ⟨ret_i HER.out, stepAny HL.out hl5⟩
end Go.Proofs.Ytbklmpekpcneeaa
namespace Nd
theorem get_bl (d : List UInt8) (n : Int) : (get d n).1.bl.length = 12 := by
  unfold get
  split
  · rfl
  · split
    · rfl
    · split
      · rfl
      · exact (raw_enc _ _).n
theorem get_chk {d : List UInt8} {n : Int} (h : check d ≠ 0) : get d n = (free, check d) := if_pos h
theorem get_rng {d : List UInt8} {n : Int} (h : check d = 0) (hn : n < 0 ∨ 32 ≤ n) : get d n = (free, 2) := by unfold get; rw [if_neg (by simp [h]), if_pos hn]
theorem get_non {d : List UInt8} {n : Nat} (h : check d = 0) (hn : n < 32) (hk : (raw d n).kind = 0) : get d (n : Int) = (free, 8) := by unfold get; rw [if_neg (by simp [h]), if_neg (by omega), Int.toNat_natCast, if_pos hk]
theorem get_yes {d : List UInt8} {n : Nat} (h : check d = 0) (hn : n < 32) (hk : (raw d n).kind ≠ 0) : get d (n : Int) = (raw d n, 0) := by unfold get; rw [if_neg (by simp [h]), if_neg (by omega), Int.toNat_natCast, if_neg hk]
/-- How many of the first k inodes are used. -/
def cntTo (d : List UInt8) (k : Nat) : Nat := (((inos d).take k).filter fun x => x.kind ≠ 0).length
theorem cntTo_step (d : List UInt8) {k : Nat} (hk : k < 32) : cntTo d (k + 1) = if (raw d k).kind = 0 then cntTo d k else cntTo d k + 1 := by
  unfold cntTo
  have e : (inos d)[k]'(by rw [inos_len]; omega) = raw d k := by
    have := raw_get d hk
    rw [List.getElem?_eq_getElem (by rw [inos_len]; omega)] at this
    simpa using this
  rw [List.take_succ_eq_append_getElem (by rw [inos_len]; omega), e, List.filter_append, List.length_append]
  by_cases h : (raw d k).kind = 0
  · rw [if_pos h, List.filter_cons_of_neg (by simp [h])]; rfl
  · rw [if_neg h, List.filter_cons_of_pos (by simp [h])]; rfl
theorem cntTo_all (d : List UInt8) : cntTo d 32 = ((inos d).filter fun x => x.kind ≠ 0).length := by
  unfold cntTo
  rw [List.take_of_length_le (by rw [inos_len]; omega)]
end Nd
namespace Go.Proofs.Ytbklmpekpcneeaa
open Go.RowKit
set_option maxRecDepth 100000

set_option maxHeartbeats 4000000 in
theorem rget_w {v : Value} {d : List UInt8} {w : World} (hv : Sl eb w v d) (hd : d.length = 12288) (n : Int) : Calls Try.prog 20 #[v, .int .i64 n] w fun e w' => e = .returned (.tuple #[.agg (ic (Nd.get d n).1).toArray, .int .i64 (Nd.get d n).2]) ∧ Below w.heap.size w w' := by
  have HV := Lib.hid hv
  obtain ⟨b, off, cap, rfl, hc, hm, hb, -⟩ := hv.disk hd
  obtain ⟨W1, hW1⟩ : ∃ W, W = w.alloc (.cells #[.int .i64 0, .int .i64 0, .int .i64 0, .int .i64 0, .int .i64 0, .int .i64 0, .int .i64 0, .int .i64 0, .int .i64 0, .int .i64 0, .int .i64 0, .int .i64 0, .int .i64 0, .int .i64 0] 45 (0, 0)) := ⟨_, rfl⟩
  have hl1 : Below w.heap.size w W1 := by rw [hW1]; exact low_alloc _ _
  have hk1 : Bk W1 w.heap.size 45 [.int .i64 0, .int .i64 0, .int .i64 0, .int .i64 0, .int .i64 0, .int .i64 0, .int .i64 0, .int .i64 0, .int .i64 0, .int .i64 0, .int .i64 0, .int .i64 0, .int .i64 0, .int .i64 0] := by rw [hW1]; exact Bk.new w _ [.int .i64 0, .int .i64 0, .int .i64 0, .int .i64 0, .int .i64 0, .int .i64 0, .int .i64 0, .int .i64 0, .int .i64 0, .int .i64 0, .int .i64 0, .int .i64 0, .int .i64 0, .int .i64 0]
  have HW1 := Lib.hid hW1
  have HL1 := Lib.hid hl1
  have HK1 := Lib.hid hk1
  have HCK : Hid (Calls Try.prog 22 #[.slice (some ⟨b, off, none⟩) 12288 cap] W1 fun e w' => e = .returned (.int .i64 (Nd.check d)) ∧ Below W1.heap.size W1 w') := rcheck_w (hv.below hl1 (Nat.le_refl _)) hd
  have HRW : Hid (∀ W, Below w.heap.size w W → ∀ n : Nat, n < 32 → Calls Try.prog 47 #[.slice (some ⟨b, off, none⟩) 12288 cap, .int .i64 (n : Int)] W fun e w' => e = .returned (.agg (ic (Nd.raw d n)).toArray) ∧ Below W.heap.size W w') := fun W hW n hn => rraw_w (HV.out.below hW (Nat.le_refl _)) hd n hn
  have hlen := Nd.get_bl d n
  have HLEN := Lib.hid hlen
  have H1 := Lib.hid (fun h => Nd.get_chk (d := d) (n := n) h)
  have H2 := Lib.hid (fun h hn => Nd.get_rng (d := d) (n := n) h hn)
  have H3 := Lib.hid (fun m h hn hk => Nd.get_non (d := d) (n := m) h hn hk)
  have H4 := Lib.hid (fun m h hn hk => Nd.get_yes (d := d) (n := m) h hn hk)
  have hbw : w.heap.size < W1.heap.size := hk1.lt
  clear hv hd hW1 hl1 hk1 hlen hb
  by_cases hck : Nd.check d = 0
  rotate_left
  · have HG := Lib.hid (H1.out hck)
    generalize Nd.check d = ec at *
    have f1 : (ec != 0) = true := by rw [bne_iff_ne]; exact hck
    clear hck H1 H2 H3 H4
    go_enter Try.func20, Try.ntmps20
    go_upto_region 1 with fail
    rw [← HW1.out]
    go_wp2_with (first
      | (go_at_call 22; (with_reducible refine HCK.out.mono ?_); rintro e w1 ⟨rfl, hb1⟩)
      | (refine wpList_store_part rfl 45 _ _ rfl w.heap.size 0 14 (ic Nd.free) rfl rfl 45 _ (HK1.out.below hb1 HK1.out.lt) rfl (by simp) Try.sizeRI (ic_one _) ?_; intro w2 hk2 hg2))
    rw [splice_all _ _ (by rfl)] at hk2
    (try simp only [Exit.inBlock, Exit.then])
    rw [HG.out]
    exact bodyPost_ret (results_ino_tmp rfl _ _ Nd.free rfl w.heap.size rfl _ hk2 _ Try.underlying45 rfl Try.sizeRI) rfl ⟨rfl, (stepAny HL1.out hb1).trans (below_of_grown hg2 (Nat.le_refl _) (stepAny HL1.out hb1).size)⟩
  rw [hck] at HCK
  by_cases hn : n < 0 ∨ 32 ≤ n
  · have HG := Lib.hid (H2.out hck hn)
    clear hck H1 H2 H3 H4
    rcases hn with hn | hn
    all_goals
      go_enter Try.func20, Try.ntmps20
      go_upto_region 1 with fail
      rw [← HW1.out]
      go_wp2_with (first
        | (go_at_call 22; (with_reducible refine HCK.out.mono ?_); rintro e w1 ⟨rfl, hb1⟩)
        | (refine wpList_store_part rfl 45 _ _ rfl w.heap.size 0 14 (ic Nd.free) rfl rfl 45 _ (HK1.out.below hb1 HK1.out.lt) rfl (by simp) Try.sizeRI (ic_one _) ?_; intro w2 hk2 hg2))
      rw [splice_all _ _ (by rfl)] at hk2
      (try simp only [Exit.inBlock, Exit.then])
      rw [HG.out]
      exact bodyPost_ret (results_ino_tmp rfl _ _ Nd.free rfl w.heap.size rfl _ hk2 _ Try.underlying45 rfl Try.sizeRI) rfl ⟨rfl, (stepAny HL1.out hb1).trans (below_of_grown hg2 (Nat.le_refl _) (stepAny HL1.out hb1).size)⟩
  obtain ⟨m, rfl⟩ : ∃ m : Nat, n = m := ⟨n.toNat, by omega⟩
  have hm32 : m < 32 := by omega
  have f1 : (0 : Int) ≤ (m : Int) := by omega
  have f2 : (m : Int) < 32 := by omega
  have HRM := Lib.hid (fun W hW => HRW.out W hW m hm32)
  have HRL := Lib.hid (Nd.raw_len d m)
  by_cases hk : (Nd.raw d m).kind = 0
  · have HG := Lib.hid (H3.out m hck hm32 hk)
    have f3 : (((Nd.raw d m).kind : Int) == 0) = true := by rw [hk]; rfl
    generalize Nd.raw d m = x at *
    clear hck H1 H2 H3 H4 hn hk HRW
    go_enter Try.func20, Try.ntmps20
    go_upto_region 1 with fail
    rw [← HW1.out]
    go_upto_region 7 with (first
      | (go_at_call 22; (with_reducible refine HCK.out.mono ?_); rintro e w1 ⟨rfl, hb1⟩; have hl1 := stepAny HL1.out hb1; have hk1 := HK1.out.below hb1 HK1.out.lt)
      | (go_at_call 47; (with_reducible refine (HRM.out _ hl1).mono ?_); rintro e w2 ⟨rfl, hb2⟩)
      | (refine wpList_store_part rfl 45 _ _ rfl w2.heap.size 0 14 (ic x) rfl rfl 45 [.int .i64 0, .int .i64 0, .int .i64 0, .int .i64 0, .int .i64 0, .int .i64 0, .int .i64 0, .int .i64 0, .int .i64 0, .int .i64 0, .int .i64 0, .int .i64 0, .int .i64 0, .int .i64 0] (Bk.new w2 _ [.int .i64 0, .int .i64 0, .int .i64 0, .int .i64 0, .int .i64 0, .int .i64 0, .int .i64 0, .int .i64 0, .int .i64 0, .int .i64 0, .int .i64 0, .int .i64 0, .int .i64 0, .int .i64 0]) (ic_len HRL.out) (by simp) Try.sizeRI (ic_one _) ?_; intro w3 hk3 hg3))
    rw [splice_all _ _ (by rw [ic_len HRL.out]; rfl)] at hk3
    have hb3 : Below w2.heap.size w2 w3 := (low_alloc w2 _).trans (below_of_grown hg3 (Nat.le_refl _) (low_alloc w2 _).size)
    have hl3 := stepAny (stepAny hl1 hb2) hb3
    have hkr := (hk1.below hb2 hk1.lt).below hb3 (hk1.below hb2 hk1.lt).lt
    have z0 : w3.cell? ⟨w2.heap.size, 0, none⟩ = some (.int .i64 (x.kind : Int)) := hk3.cell 0
    have HKR := Lib.hid hkr
    have HL3 := Lib.hid hl3
    clear hb1 hl1 hk1 hb2 hk3 hg3 hb3 hl3 hkr
    go_wp2_with (refine wpList_store_part rfl 45 _ _ rfl w.heap.size 0 14 (ic Nd.free) rfl rfl 45 _ HKR.out rfl (by simp) Try.sizeRI (ic_one _) ?_; intro w4 hk4 hg4)
    rw [splice_all _ _ (by rfl)] at hk4
    (try simp only [Exit.inBlock, Exit.then])
    rw [HG.out]
    exact bodyPost_ret (results_ino_tmp rfl _ _ Nd.free rfl w.heap.size rfl _ hk4 _ Try.underlying45 rfl Try.sizeRI) rfl ⟨rfl, HL3.out.trans (below_of_grown hg4 (Nat.le_refl _) HL3.out.size)⟩
  · have HG := Lib.hid (H4.out m hck hm32 hk)
    have f3 : (((Nd.raw d m).kind : Int) == 0) = false := by rw [beq_eq_false_iff_ne]; omega
    generalize Nd.raw d m = x at *
    clear hck H1 H2 H3 H4 hn hk HRW
    go_enter Try.func20, Try.ntmps20
    go_upto_region 1 with fail
    rw [← HW1.out]
    go_upto_region 7 with (first
      | (go_at_call 22; (with_reducible refine HCK.out.mono ?_); rintro e w1 ⟨rfl, hb1⟩; have hl1 := stepAny HL1.out hb1; have hk1 := HK1.out.below hb1 HK1.out.lt)
      | (go_at_call 47; (with_reducible refine (HRM.out _ hl1).mono ?_); rintro e w2 ⟨rfl, hb2⟩)
      | (refine wpList_store_part rfl 45 _ _ rfl w2.heap.size 0 14 (ic x) rfl rfl 45 [.int .i64 0, .int .i64 0, .int .i64 0, .int .i64 0, .int .i64 0, .int .i64 0, .int .i64 0, .int .i64 0, .int .i64 0, .int .i64 0, .int .i64 0, .int .i64 0, .int .i64 0, .int .i64 0] (Bk.new w2 _ [.int .i64 0, .int .i64 0, .int .i64 0, .int .i64 0, .int .i64 0, .int .i64 0, .int .i64 0, .int .i64 0, .int .i64 0, .int .i64 0, .int .i64 0, .int .i64 0, .int .i64 0, .int .i64 0]) (ic_len HRL.out) (by simp) Try.sizeRI (ic_one _) ?_; intro w3 hk3 hg3))
    rw [splice_all _ _ (by rw [ic_len HRL.out]; rfl)] at hk3
    have hb3 : Below w2.heap.size w2 w3 := (low_alloc w2 _).trans (below_of_grown hg3 (Nat.le_refl _) (low_alloc w2 _).size)
    have hl3 := stepAny (stepAny hl1 hb2) hb3
    have hkr := (hk1.below hb2 hk1.lt).below hb3 (hk1.below hb2 hk1.lt).lt
    have z0 : w3.cell? ⟨w2.heap.size, 0, none⟩ = some (.int .i64 (x.kind : Int)) := hk3.cell 0
    have HKR := Lib.hid hkr
    have HK3 := Lib.hid hk3
    have HL3 := Lib.hid hl3
    clear hb1 hl1 hk1 hb2 hk3 hg3 hb3 hl3 hkr
    go_wp2_with (first
      | (refine wpList_load_ino rfl 45 _ rfl w2.heap.size rfl 45 x HRL.out HK3.out _ Try.underlying45 rfl Try.sizeRI ?_; unfold iv)
      | (refine wpList_store_part rfl 45 _ _ rfl w.heap.size 0 14 (ic x) rfl rfl 45 _ HKR.out (ic_len HRL.out) (by simp) Try.sizeRI (ic_one _) ?_; intro w4 hk4 hg4))
    rw [splice_all _ _ (by rw [ic_len HRL.out]; rfl)] at hk4
    (try simp only [Exit.inBlock, Exit.then])
    rw [HG.out]
    exact bodyPost_ret (results_ino_tmp rfl _ _ x HRL.out w.heap.size rfl _ hk4 _ Try.underlying45 rfl Try.sizeRI) rfl ⟨rfl, HL3.out.trans (below_of_grown hg4 (Nat.le_refl _) HL3.out.size)⟩

theorem wpList_kind {P : Program} {w : World} {ops : Array Oper} {rest : List Oper} {o : Oper} {a : Act} {Q : Exit → Act → World → Prop} (hgd : o.guard = none) (T : TypeId) (x : Operand) (ho : o.op = .field T x 0) (y : Nd.Ino) (hx : a.eval x = .agg (ic y).toArray)
    (hi : ∀ w, (Instr.field T (.agg (ic y).toArray) 0).run P w = .ok (.int .i64 (y.kind : Int)) w) (h : wpList P ops Q rest (a.put o.dst (.int .i64 (y.kind : Int))) w) : wpList P ops Q (o :: rest) a w :=
  wpList_plain hgd fun _ hK => by
    unfold Oper.wp execOp
    simp only [ho, hx, Sem.run_bind, Sem.run_pure, Result.andThen_ok, hi]
    exact hK _ _ h
theorem Try.kindRI (y : Nd.Ino) (w : World) : (Instr.field 45 (.agg (ic y).toArray) 0).run Try.prog w = .ok (.int .i64 (y.kind : Int)) w := by
  rfl

set_option maxHeartbeats 4000000 in
theorem rusage_w {v : Value} {d : List UInt8} {w : World} (hv : Sl eb w v d) (hd : d.length = 12288) : Calls Try.prog 21 #[v] w fun e w' => e = .returned (.tuple #[.int .i64 (Nd.usage d).1, .int .i64 (Nd.usage d).2.1, .int .i64 (Nd.usage d).2.2]) ∧ Below w.heap.size w w' := by
  have HV := Lib.hid hv
  obtain ⟨b, off, cap, rfl, hc, hm, hb, -⟩ := hv.disk hd
  have HCK := Lib.hid (rcheck_w hv hd)
  have HRW : Hid (∀ W, Below w.heap.size w W → ∀ n : Nat, n < 32 → Calls Try.prog 47 #[.slice (some ⟨b, off, none⟩) 12288 cap, .int .i64 (n : Int)] W fun e w' => e = .returned (.agg (ic (Nd.raw d n)).toArray) ∧ Below W.heap.size W w') := fun W hW n hn => rraw_w (HV.out.below hW (Nat.le_refl _)) hd n hn
  have HBM : Hid (∀ W, Below w.heap.size w W → Calls Try.prog 49 #[.slice (some ⟨b, off, none⟩) 12288 cap] W fun e w' => ∃ a c, e = .returned (.slice a 12 c) ∧ Sl eb w' (.slice a 12 c) (Nd.bits d) ∧ Below W.heap.size W w') := fun W hW => (bitmap_w (HV.out.below hW (Nat.le_refl _)) hd).mono fun e w' h => by
    obtain ⟨v', rfl, ho, hb⟩ := h
    have hs := own_sl0 ho (Nd.bits_len hd)
    obtain ⟨a, c, rfl, -⟩ := id hs
    rw [Nd.bits_len hd] at hs
    exact ⟨a, c, by rw [Nd.bits_len hd], hs, hb⟩
  have HCN : Hid (∀ W a c, Sl eb W (.slice a 12 c) (Nd.bits d) → Calls Try.prog 48 #[.slice a 12 c] W fun e w' => e = .returned (.int .i64 ((Ex.countTo (Nd.bits d) 96 : Nat) : Int)) ∧ W = w') := fun W a c h => by
    have h2 := ercount_w h (by rw [Nd.bits_len hd]; decide)
    rw [Nd.bits_len hd] at h2
    exact h2
  have hcl : Ex.countTo (Nd.bits d) 96 ≤ 96 := by
    unfold Ex.countTo
    exact Nat.le_trans (List.length_filter_le _ _) (by simp)
  have HU : Hid (Nd.usage d = if Nd.check d ≠ 0 then (0, 0, Nd.check d) else ((Nd.cntTo d 32 : Int), ((Ex.countTo (Nd.bits d) 96 : Nat) : Int) - 18, 0)) := by show _ = _; unfold Nd.usage; rw [Nd.cntTo_all]
  have HST := Lib.hid (fun k hk => Nd.cntTo_step d (k := k) hk)
  have HC0 : Hid (Nd.cntTo d 0 = 0) := rfl
  generalize Ex.countTo (Nd.bits d) 96 = cn at *
  clear hv hd hb
  by_cases hck : Nd.check d = 0
  rotate_left
  · rw [if_pos hck] at HU
    generalize Nd.check d = ec at *
    have f1 : (ec != 0) = true := by rw [bne_iff_ne]; exact hck
    clear hck
    go_enter Try.func21, Try.ntmps21
    go_wp2_with (go_at_call 22; (with_reducible refine HCK.out.mono ?_); rintro e w1 ⟨rfl, hb1⟩)
    go_ret3
    rw [HU.out]
    exact ⟨rfl, hb1⟩
  rw [if_neg (by simp [hck])] at HU
  rw [hck] at HCK
  clear hck
  go_enter Try.func21, Try.ntmps21
  go_upto_region 4 with (go_at_call 22; (with_reducible refine HCK.out.mono ?_); rintro e w1 ⟨rfl, hb1⟩)
  have HL1 := Lib.hid hb1
  clear hb1
  go_wp2_with fail
  go_loopw [6, 7] (fun cv nv wr => ∃ (n : Nat), cv = .int .i64 (Nd.cntTo d n : Int) ∧ nv = .int .i64 n ∧ n ≤ 32 ∧ Nd.cntTo d n ≤ n ∧ Below w.heap.size w wr) (fun _ i _ => 32 - (intOf i).toNat)
  case atStart => exact ⟨0, by rw [HC0.out]; rfl, rfl, by omega, by rw [HC0.out]; exact Nat.le_refl _, HL1.out⟩
  case round =>
    obtain ⟨n, rfl, rfl, hn, hcn, hl⟩ := hrel
    by_cases hlt : n < 32
    · have HRM := Lib.hid (HRW.out wr hl n hlt)
      have HSN := Lib.hid (HST.out n hlt)
      have HL := Lib.hid hl
      have f5 : (0 : Int) ≤ (n : Int) := by omega
      have f6 : (n : Int) < 32 := by omega
      clear hl
      obtain ⟨c0, hc0⟩ : ∃ c, Nd.cntTo d n = c := ⟨_, rfl⟩
      rw [hc0] at HSN hcn ⊢
      clear hc0
      generalize Nd.raw d n = x at *
      by_cases hk : x.kind = 0
      · have f3 : ((x.kind : Int) != 0) = false := by rw [hk]; rfl
        have HS2 : Hid (Nd.cntTo d (n + 1) = c0) := by show _ = _; rw [HSN.out, if_pos hk]
        clear hk
        go_wp2_with (first
          | (go_at_call 47; (with_reducible refine HRM.out.mono ?_); rintro e w2 ⟨rfl, hb2⟩)
          | (refine wpList_kind rfl 45 _ rfl x rfl (Try.kindRI x) ?_))
        go_roundw
        case rel => exact ⟨n + 1, by rw [HS2.out], by go_num, by omega, by rw [HS2.out]; omega, stepAny HL.out hb2⟩
        case measure => simp [intOf]; omega
      · have f3 : ((x.kind : Int) != 0) = true := by rw [bne_iff_ne]; omega
        have HS2 : Hid (Nd.cntTo d (n + 1) = c0 + 1) := by show _ = _; rw [HSN.out, if_neg hk]
        clear hk
        go_wp2_with (first
          | (go_at_call 47; (with_reducible refine HRM.out.mono ?_); rintro e w2 ⟨rfl, hb2⟩)
          | (refine wpList_kind rfl 45 _ rfl x rfl (Try.kindRI x) ?_))
        go_roundw
        case rel => exact ⟨n + 1, by rw [HS2.out]; go_num, by go_num, by omega, by rw [HS2.out]; omega, stepAny HL.out hb2⟩
        case measure => simp [intOf]; omega
    · obtain rfl : n = 32 := by omega
      have HL := Lib.hid hl
      clear hl
      generalize Nd.cntTo d 32 = c0 at *
      go_wp2_with (first
        | (go_at_call 49; (with_reducible refine (HBM.out _ HL.out).mono ?_); rintro e w2 ⟨a, c, rfl, hs2, hb2⟩)
        | (go_at_call 48; (with_reducible refine (HCN.out _ _ _ hs2).mono ?_); rintro e w' ⟨rfl, rfl⟩))
      go_ret3
      rw [HU.out]
      exact ⟨rfl, stepAny HL.out hb2⟩
end Go.Proofs.Ytbklmpekpcneeaa
namespace Nd
theorem putB_len {d b : List UInt8} (hd : d.length = 12288) (hb : b.length = 12) : (putB d b).length = 12288 := by unfold putB; rw [put_len (by omega), hd]
theorem putB_g {d b : List UInt8} (hd : d.length = 12288) (hb : b.length = 12) (i : Nat) : g (putB d b) i = if 1664 ≤ i ∧ i < 1676 then g b (i - 1664) else g d i := by unfold putB; rw [g_put (by omega), hb]
theorem bits_putB {d b : List UInt8} (hd : d.length = 12288) (hb : b.length = 12) : bits (putB d b) = b := ext_g (by rw [bits_len (putB_len hd hb), hb]) fun i hi => by
  rw [bits_len (putB_len hd hb)] at hi
  rw [g_bits hi, putB_g hd hb, if_pos (by omega), Nat.add_sub_cancel_left]
theorem putB_putB {d b c : List UInt8} (hd : d.length = 12288) (hb : b.length = 12) (hc : c.length = 12) : putB (putB d b) c = putB d c := ext_g (by rw [putB_len (putB_len hd hb) hc, putB_len hd hc]) fun i _ => by
  rw [putB_g (putB_len hd hb) hc, putB_g hd hc, putB_g hd hb]
  split
  · rfl
  · rfl
/-- The bitmap behind k releases. -/
def dropTo (d : List UInt8) (l : List Nat) (k : Nat) : List UInt8 := drops (bits d) (l.take k)
theorem drops_snoc (b : List UInt8) (l : List Nat) (x : Nat) : drops b (l ++ [x]) = if x = 0 then drops b l else Ex.putB (drops b l) x false := by unfold drops; rw [List.foldl_append]; rfl
theorem dropTo_step {d : List UInt8} {x : Ino} (hx : x.bl.length = 12) {k : Nat} (hk : k < 12) : dropTo d x.bl (k + 1) = if bk x k = 0 then dropTo d x.bl k else Ex.putB (dropTo d x.bl k) (bk x k) false := by
  unfold dropTo
  have e : x.bl[k]'(by omega) = bk x k := by unfold bk; rw [List.getD_eq_getElem?_getD, List.getElem?_eq_getElem (by omega)]; rfl
  rw [List.take_succ_eq_append_getElem (by omega), drops_snoc, e]
theorem dropTo_len {d : List UInt8} (hd : d.length = 12288) (l : List Nat) (k : Nat) : (dropTo d l k).length = 12 := by unfold dropTo; rw [drops_len, bits_len hd]
/-- The disk behind k releases. -/
def relTo (d : List UInt8) (x : Ino) (k : Nat) : List UInt8 := putB d (dropTo d x.bl k)
theorem relTo_zero {d : List UInt8} (hd : d.length = 12288) (x : Ino) : relTo d x 0 = d := putB_bits hd
theorem relTo_len {d : List UInt8} (hd : d.length = 12288) (x : Ino) (k : Nat) : (relTo d x k).length = 12288 := putB_len hd (dropTo_len hd _ _)
theorem relTo_skip {d : List UInt8} {x : Ino} (hx : x.bl.length = 12) {k : Nat} (hk : k < 12) (h : bk x k = 0) : relTo d x (k + 1) = relTo d x k := by unfold relTo; rw [dropTo_step hx hk, if_pos h]
theorem relTo_step {d : List UInt8} (hd : d.length = 12288) {x : Ino} (hx : x.bl.length = 12) {k : Nat} (hk : k < 12) (h : bk x k ≠ 0) : putB (relTo d x k) (Ex.putB (bits (relTo d x k)) (bk x k) false) = relTo d x (k + 1) := by
  have hl := dropTo_len hd x.bl k
  unfold relTo
  rw [bits_putB hd hl, putB_putB hd hl (by rw [Ex.length_putB, hl]), dropTo_step hx hk, if_neg h]
theorem relTo_all {d : List UInt8} {x : Ino} (hx : x.bl.length = 12) : relTo d x 12 = putB d (drops (bits d) x.bl) := by unfold relTo dropTo; rw [List.take_of_length_le (by omega)]
theorem free_bad {d : List UInt8} {n : Int} (h : (get d n).2 ≠ 0) : freeN d n = ([], (get d n).2) := if_pos h
theorem free_root {d : List UInt8} (h : (get d 0).2 = 0) : freeN d 0 = ([], 12) := by unfold freeN; rw [if_neg (by simp [h]), if_pos rfl]
theorem free_yes {d : List UInt8} {m : Nat} (h : (get d (m : Int)).2 = 0) (hm : m ≠ 0) : freeN d (m : Int) = (putI (relTo d (raw d m) 12) m free, 0) := by
  unfold freeN
  rw [if_neg (by simp [h]), if_neg (by omega), Int.toNat_natCast, relTo_all (raw_enc d m).n]
theorem get_some {d : List UInt8} {n : Int} (h : (get d n).2 = 0) : ∃ m : Nat, n = m ∧ m < 32 ∧ (get d n).1 = raw d m ∧ Formed d := by
  obtain ⟨-, hF, m, e, hm, -, hg⟩ := get_ok h
  exact ⟨m, e, hm, by rw [hg], hF⟩
theorem alloc_chk {d : List UInt8} {k : Int} (h : check d ≠ 0) : alloc d k = (0, [], check d) := if_pos h
theorem alloc_arg {d : List UInt8} {k : Int} (h : check d = 0) (hk : k ≠ 1 ∧ k ≠ 2) : alloc d k = (0, [], 1) := by unfold alloc; rw [if_neg (by simp [h]), if_pos hk]
theorem find_none {d : List UInt8} (hf : ∀ m, m < 32 → (raw d m).kind ≠ 0) : (List.range 32).find? (fun n => (raw d n).kind = 0) = none := by
  rw [List.find?_eq_none]
  intro m hm
  simpa using hf m (List.mem_range.1 hm)
theorem find_some {d : List UInt8} {n : Nat} (hn : n < 32) (hf : ∀ m, m < n → (raw d m).kind ≠ 0) (h : (raw d n).kind = 0) : (List.range 32).find? (fun n => (raw d n).kind = 0) = some n := by
  rw [List.find?_eq_some_iff_append]
  refine ⟨by simpa using h, List.range n, List.range' (n + 1) (31 - n), ?_, fun m hm => by simpa using hf m (List.mem_range.1 hm)⟩
  rw [List.range_eq_range', List.range_eq_range']
  have e : 32 = n + (1 + (31 - n)) := by omega
  conv => lhs; rw [e]
  rw [← List.range'_append_1, ← List.range'_append_1]
  simp
theorem alloc_full {d : List UInt8} {k : Int} (h : check d = 0) (hk : k = 1 ∨ k = 2) (hf : ∀ m, m < 32 → (raw d m).kind ≠ 0) : alloc d k = (0, [], 13) := by
  unfold alloc
  rw [if_neg (by simp [h]), if_neg (by omega), find_none hf]
theorem alloc_file {d : List UInt8} {n : Nat} (h : check d = 0) (hn : n < 32) (hf : ∀ m, m < n → (raw d m).kind ≠ 0) (h0 : (raw d n).kind = 0) : alloc d 1 = ((n : Int), putI d n ⟨1, 0, List.replicate 12 0⟩, 0) := by
  unfold alloc
  rw [if_neg (by simp [h]), if_neg (by omega), find_some hn hf h0]
  rfl
theorem alloc_none {d : List UInt8} {n : Nat} (h : check d = 0) (hn : n < 32) (hf : ∀ m, m < n → (raw d m).kind ≠ 0) (h0 : (raw d n).kind = 0) (ht : takeN (bits d) 1 = ([], [], 13)) : alloc d 2 = (0, [], 13) := by
  unfold alloc
  rw [if_neg (by simp [h]), if_neg (by omega), find_some hn hf h0]
  simp [ht]
theorem zero_put {d b : List UInt8} (hd : d.length = 12288) (hb : b.length = 12) {i : Nat} (h1 : 18 ≤ i) (h2 : i < 96) : zeroB (putB d b) i = putB (zeroB d i) b := ext_g (by rw [zeroB_len (putB_len hd hb) h2, putB_len (zeroB_len hd h2) hb]) fun j _ => by
  rw [zeroB_g (putB_len hd hb) h2, putB_g hd hb, putB_g (zeroB_len hd h2) hb, zeroB_g hd h2]
  by_cases c : 128 * i ≤ j ∧ j < 128 * i + 128
  · rw [if_pos c, if_neg (by omega), if_pos c]
  · rw [if_neg c, if_neg c]
theorem alloc_dir {d : List UInt8} (hd : d.length = 12288) {n i : Nat} (h : check d = 0) (hn : n < 32) (hf : ∀ m, m < n → (raw d m).kind ≠ 0) (h0 : (raw d n).kind = 0) (h1 : 18 ≤ i) (h2 : i < 96) (ht : takeN (bits d) 1 = ([i], Ex.putB (bits d) i true, 0)) :
    alloc d 2 = ((n : Int), putI (zeroB (putB d (Ex.putB (bits d) i true)) i) n ⟨2, 128, (List.replicate 12 0).set 0 i⟩, 0) := by
  unfold alloc
  rw [if_neg (by simp [h]), if_neg (by omega), find_some hn hf h0, zero_put hd (by rw [Ex.length_putB, bits_len hd]) h1 h2]
  simp [ht]
end Nd
namespace Go.Proofs.Ytbklmpekpcneeaa
open Go.RowKit
set_option maxRecDepth 100000

set_option maxHeartbeats 4000000 in
theorem rfree_w {v : Value} {d : List UInt8} {w : World} (hv : Sl eb w v d) (hd : d.length = 12288) (n : Int) : Calls Try.prog 37 #[v, .int .i64 n] w fun e w' => ∃ v', e = .returned (.tuple #[v', .int .i64 (Nd.freeN d n).2]) ∧ Sl eb w' v' (Nd.freeN d n).1 ∧ Below w.heap.size w w' := by
  have HV := Lib.hid hv
  obtain ⟨b, off, cap, rfl, hc, hm, hb, -⟩ := hv.disk hd
  have HGT := Lib.hid (rget_w hv hd n)
  have HXL := Lib.hid (Nd.get_bl d n)
  have hfb := fun h => Nd.free_bad (d := d) (n := n) h
  by_cases hg : (Nd.get d n).2 = 0
  rotate_left
  · have HF := Lib.hid (hfb hg)
    generalize (Nd.get d n).2 = ec at *
    generalize (Nd.get d n).1 = x at *
    have f1 : (ec != 0) = true := by rw [bne_iff_ne]; exact hg
    clear hfb hg hv hd hb
    go_enter Try.func37, Try.ntmps37
    go_wp2_with (first
      | (go_at_call 20; (with_reducible refine HGT.out.mono ?_); rintro e w1 ⟨rfl, hb1⟩)
      | (refine wpList_store_part rfl 45 _ _ rfl w1.heap.size 0 14 (ic x) rfl rfl 45 [.int .i64 0, .int .i64 0, .int .i64 0, .int .i64 0, .int .i64 0, .int .i64 0, .int .i64 0, .int .i64 0, .int .i64 0, .int .i64 0, .int .i64 0, .int .i64 0, .int .i64 0, .int .i64 0] (Bk.new w1 _ [.int .i64 0, .int .i64 0, .int .i64 0, .int .i64 0, .int .i64 0, .int .i64 0, .int .i64 0, .int .i64 0, .int .i64 0, .int .i64 0, .int .i64 0, .int .i64 0, .int .i64 0, .int .i64 0]) (ic_len HXL.out) (by simp) Try.sizeRI (ic_one _) ?_; intro w2 hk2 hg2))
    go_ret2
    rw [HF.out]
    exact ⟨_, rfl, Sl.nil _ _, (stepAny hb1 (low_alloc w1 _)).trans (below_of_grown hg2 hb1.size (stepAny hb1 (low_alloc w1 _)).size)⟩
  have hg0 := hg
  obtain ⟨m, rfl, hm32, hraw, hF⟩ := Nd.get_some hg
  rw [hg, hraw] at HGT
  rw [hraw] at HXL
  by_cases h0 : m = 0
  · have HF : Hid (Nd.freeN d (m : Int) = ([], 12)) := by subst h0; exact Nd.free_root hg0
    have f1 : ((m : Int) == 0) = true := by rw [h0]; rfl
    generalize Nd.raw d m = x at *
    clear hfb hg hg0 hraw hF hv hd hb h0
    go_enter Try.func37, Try.ntmps37
    go_wp2_with (first
      | (go_at_call 20; (with_reducible refine HGT.out.mono ?_); rintro e w1 ⟨rfl, hb1⟩)
      | (refine wpList_store_part rfl 45 _ _ rfl w1.heap.size 0 14 (ic x) rfl rfl 45 [.int .i64 0, .int .i64 0, .int .i64 0, .int .i64 0, .int .i64 0, .int .i64 0, .int .i64 0, .int .i64 0, .int .i64 0, .int .i64 0, .int .i64 0, .int .i64 0, .int .i64 0, .int .i64 0] (Bk.new w1 _ [.int .i64 0, .int .i64 0, .int .i64 0, .int .i64 0, .int .i64 0, .int .i64 0, .int .i64 0, .int .i64 0, .int .i64 0, .int .i64 0, .int .i64 0, .int .i64 0, .int .i64 0, .int .i64 0]) (ic_len HXL.out) (by simp) Try.sizeRI (ic_one _) ?_; intro w2 hk2 hg2))
    go_ret2
    rw [HF.out]
    exact ⟨_, rfl, Sl.nil _ _, (stepAny hb1 (low_alloc w1 _)).trans (below_of_grown hg2 hb1.size (stepAny hb1 (low_alloc w1 _)).size)⟩
  have HFY := Lib.hid (Nd.free_yes hg0 h0)
  have HBK : Hid (∀ i, i < 12 → Nd.bk (Nd.raw d m) i < 96) := fun i hi => hF.bk96 hm32 hi
  have HRZ := Lib.hid (Nd.relTo_zero hd (Nd.raw d m))
  have HRL := Lib.hid (Nd.relTo_len hd (Nd.raw d m))
  have HRS := Lib.hid (fun k hk h => Nd.relTo_step hd (x := Nd.raw d m) HXL.out (k := k) hk h)
  have HRK := Lib.hid (fun k hk h => Nd.relTo_skip (d := d) (x := Nd.raw d m) HXL.out (k := k) hk h)
  have HD := Lib.hid hd
  have f1 : ((m : Int) == 0) = false := by rw [beq_eq_false_iff_ne]; omega
  generalize Nd.raw d m = x at *
  clear hfb hg hg0 hraw hF hv hd hb h0
  go_enter Try.func37, Try.ntmps37
  go_upto_region 2 with (first
    | (go_at_call 20; (with_reducible refine HGT.out.mono ?_); rintro e w1 ⟨rfl, hb1⟩)
    | (refine wpList_store_part rfl 45 _ _ rfl w1.heap.size 0 14 (ic x) rfl rfl 45 [.int .i64 0, .int .i64 0, .int .i64 0, .int .i64 0, .int .i64 0, .int .i64 0, .int .i64 0, .int .i64 0, .int .i64 0, .int .i64 0, .int .i64 0, .int .i64 0, .int .i64 0, .int .i64 0] (Bk.new w1 _ [.int .i64 0, .int .i64 0, .int .i64 0, .int .i64 0, .int .i64 0, .int .i64 0, .int .i64 0, .int .i64 0, .int .i64 0, .int .i64 0, .int .i64 0, .int .i64 0, .int .i64 0, .int .i64 0]) (ic_len HXL.out) (by simp) Try.sizeRI (ic_one _) ?_; intro w2 hk2 hg2))
  rw [splice_all _ _ (by rw [ic_len HXL.out]; rfl)] at hk2
  have hl2 : Below w.heap.size w w2 := (stepAny hb1 (low_alloc w1 _)).trans (below_of_grown hg2 hb1.size (stepAny hb1 (low_alloc w1 _)).size)
  have HK2 := Lib.hid hk2
  have HL2 := Lib.hid hl2
  have HS2 := Lib.hid (HV.out.below hl2 (Nat.le_refl _))
  obtain ⟨bx, hbx⟩ : ∃ y, y = w1.heap.size := ⟨_, rfl⟩
  rw [← hbx] at HK2 ⊢
  clear hbx hb1 hg2 hk2 hl2
  go_wp2_with fail
  go_loopw [8, 9] (fun uv nv wr => ∃ k : Nat, nv = .int .i64 k ∧ k ≤ 12 ∧ Sl eb wr uv (Nd.relTo d x k) ∧ Bk wr bx 45 (ic x) ∧ Below w.heap.size w wr) (fun _ i _ => 12 - (intOf i).toNat)
  case atStart => exact ⟨0, rfl, by omega, by rw [HRZ.out]; exact HS2.out, HK2.out, HL2.out⟩
  case round =>
    clear HK2 HL2 HS2
    obtain ⟨k, rfl, hk, hs, hkb, hl⟩ := hrel
    by_cases hlt : k < 12
    · have z0 : wr.cell? ⟨bx, 2 + k, none⟩ = some (.int .i64 ((Nd.bk x k : Nat) : Int)) := by rw [hkb.cell]; exact ic_bk HXL.out hlt
      have HK := Lib.hid hkb
      have HS := Lib.hid hs
      have HL := Lib.hid hl
      have f5 : (0 : Int) ≤ (k : Int) := by omega
      have f6 : (k : Int) < 12 := by omega
      have hk96 := HBK.out k hlt
      have hsk := HRK.out k hlt
      have hst := HRS.out k hlt
      generalize Nd.bk x k = q at *
      clear hs hl hkb
      by_cases hq : q = 0
      · have HR := Lib.hid (hsk hq)
        have f7 : ((q : Int) != 0) = false := by rw [hq]; rfl
        clear hsk hst hq
        go_wp2_with fail
        go_roundw
        case rel => exact ⟨k + 1, by go_num, by omega, by rw [HR.out]; exact HS.out, HK.out, HL.out⟩
        case measure => simp [intOf]; omega
      · have HR := Lib.hid (hst hq)
        have f7 : ((q : Int) != 0) = true := by rw [bne_iff_ne]; omega
        have HRE := Lib.hid (rrelease_w HS.out (HRL.out k) q hk96)
        clear hsk hst hq
        go_wp2_with (go_at_call 70; (with_reducible refine HRE.out.mono ?_); rintro e w4 ⟨v4, rfl, ho4, hb4⟩; rw [HR.out] at ho4; have hs4 := own_sl0 ho4 (HRL.out _))
        go_roundw
        case rel => exact ⟨k + 1, by go_num, by omega, hs4, HK.out.below hb4 HK.out.lt, stepAny HL.out hb4⟩
        case measure => simp [intOf]; omega
    · obtain rfl : k = 12 := by omega
      have HPT := Lib.hid (show Calls Try.prog 58 #[_, .int .i64 (m : Int), .agg #[.int .i64 0, .int .i64 0, .int .i64 0, .int .i64 0, .int .i64 0, .int .i64 0, .int .i64 0, .int .i64 0, .int .i64 0, .int .i64 0, .int .i64 0, .int .i64 0, .int .i64 0, .int .i64 0]] wr _ from rput_w hs (HRL.out 12) m hm32 Nd.free rfl (by decide))
      have HL := Lib.hid hl
      have HPL : Hid ((Nd.putI (Nd.relTo d x 12) m Nd.free).length = 12288) := by
        show _ = _
        unfold Nd.putI
        rw [Nd.put_len (by rw [Nd.enc_len16 rfl, HRL.out]; unfold Nd.at_; omega), HRL.out]
      clear hs hl hkb
      go_wp2_with (go_at_call 58; (with_reducible refine HPT.out.mono ?_); rintro e w4 ⟨v4, rfl, ho4, hb4⟩; have hs4 := own_sl0 ho4 HPL.out)
      go_ret2
      rw [HFY.out]
      exact ⟨_, rfl, hs4, stepAny HL.out hb4⟩

set_option maxHeartbeats 8000000 in
theorem ralloc_w {v : Value} {d : List UInt8} {w : World} (hv : Sl eb w v d) (hd : d.length = 12288) (kd : Int) : Calls Try.prog 35 #[v, .int .i64 kd] w fun e w' => ∃ v', e = .returned (.tuple #[.int .i64 (Nd.alloc d kd).1, v', .int .i64 (Nd.alloc d kd).2.2]) ∧ Sl eb w' v' (Nd.alloc d kd).2.1 ∧ Below w.heap.size w w' := by
  have HV := Lib.hid hv
  obtain ⟨b, off, cap, rfl, hc, hm, hb, -⟩ := hv.disk hd
  have HCK := Lib.hid (rcheck_w hv hd)
  have hbad := fun h => Nd.alloc_chk (d := d) (k := kd) h
  by_cases hck : Nd.check d = 0
  rotate_left
  · have HF := Lib.hid (hbad hck)
    generalize Nd.check d = ec at *
    have f1 : (ec != 0) = true := by rw [bne_iff_ne]; exact hck
    clear hbad hck hv hd hb
    go_enter Try.func35, Try.ntmps35
    go_wp2_with (go_at_call 22; (with_reducible refine HCK.out.mono ?_); rintro e w1 ⟨rfl, hb1⟩)
    go_ret3
    rw [HF.out]
    exact ⟨_, rfl, Sl.nil _ _, hb1⟩
  rw [hck] at HCK
  by_cases hk : kd = 1 ∨ kd = 2
  rotate_left
  · have HF := Lib.hid (Nd.alloc_arg hck (k := kd) (by omega))
    have f1 : (kd != 1) = true := by rw [bne_iff_ne]; omega
    have f2 : (kd != 2) = true := by rw [bne_iff_ne]; omega
    clear hbad hck hv hd hb hk
    go_enter Try.func35, Try.ntmps35
    go_wp2_with (go_at_call 22; (with_reducible refine HCK.out.mono ?_); rintro e w1 ⟨rfl, hb1⟩)
    go_ret3
    rw [HF.out]
    exact ⟨_, rfl, Sl.nil _ _, hb1⟩
  have HRW : Hid (∀ W, Below w.heap.size w W → ∀ n : Nat, n < 32 → Calls Try.prog 47 #[.slice (some ⟨b, off, none⟩) 12288 cap, .int .i64 (n : Int)] W fun e w' => e = .returned (.agg (ic (Nd.raw d n)).toArray) ∧ Below W.heap.size W w') := fun W hW n hn => rraw_w (HV.out.below hW (Nat.le_refl _)) hd n hn
  have HCKD := Lib.hid hck
  have HD := Lib.hid hd
  clear hbad hck hv hd hb
  rcases hk with rfl | rfl
  · skip
    go_enter Try.func35, Try.ntmps35
    go_upto_region 6 with (go_at_call 22; (with_reducible refine HCK.out.mono ?_); rintro e w1 ⟨rfl, hb1⟩)
    have HL1 := Lib.hid hb1
    clear hb1
    go_wp2_with fail
    go_loopw [8] (fun nv wr => ∃ (n : Nat), nv = .int .i64 n ∧ n ≤ 32 ∧ Hid (∀ m, m < n → (Nd.raw d m).kind ≠ 0) ∧ Below w.heap.size w wr) (fun i _ => 32 - (intOf i).toNat)
    case atStart => exact ⟨0, rfl, by omega, fun m h => absurd h (Nat.not_lt_zero _), HL1.out⟩
    case round =>
      clear HL1
      obtain ⟨n, rfl, hn, HN, hl⟩ := hrel
      by_cases hlt : n < 32
      · have HRM := Lib.hid (HRW.out wr hl n hlt)
        have HL := Lib.hid hl
        have f5 : (0 : Int) ≤ (n : Int) := by omega
        have f6 : (n : Int) < 32 := by omega
        have hfile := fun h0 => Nd.alloc_file HCKD.out hlt HN.out h0
        have HNX : Hid ((Nd.raw d n).kind ≠ 0 → ∀ m, m < n + 1 → (Nd.raw d m).kind ≠ 0) := fun h m hm => by
          by_cases e : m = n
          · subst e; exact h
          · exact HN.out m (by omega)
        have HPT : Hid (∀ W, Below w.heap.size w W → Calls Try.prog 58 #[.slice (some ⟨b, off, none⟩) 12288 cap, .int .i64 (n : Int), .agg #[.int .i64 1, .int .i64 0, .int .i64 0, .int .i64 0, .int .i64 0, .int .i64 0, .int .i64 0, .int .i64 0, .int .i64 0, .int .i64 0, .int .i64 0, .int .i64 0, .int .i64 0, .int .i64 0]] W fun e w' => ∃ v', e = .returned v' ∧ w'.ownsRow W.heap.size 5 1 v' 12288 ((Nd.putI d n ⟨1, 0, List.replicate 12 0⟩).map eb) ∧ Below W.heap.size W w') := fun W hW => rput_w (HV.out.below hW (Nat.le_refl _)) HD.out n hlt ⟨1, 0, List.replicate 12 0⟩ rfl (by decide)
        have HPL : Hid ((Nd.putI d n ⟨1, 0, List.replicate 12 0⟩).length = 12288) := by
          show _ = _
          unfold Nd.putI
          rw [Nd.put_len (by rw [Nd.enc_len16 rfl, HD.out]; unfold Nd.at_; omega), HD.out]
        generalize Nd.raw d n = x at *
        clear hl
        by_cases hk : x.kind = 0
        · have HF := Lib.hid (hfile hk)
          have f7 : ((x.kind : Int) != 0) = false := by rw [hk]; rfl
          clear hfile hk HNX
          go_wp2_with (first
            | (go_at_call 47; (with_reducible refine HRM.out.mono ?_); rintro e w2 ⟨rfl, hb2⟩)
            | (refine wpList_kind rfl 45 _ rfl x rfl (Try.kindRI x) ?_)
            | (go_at_call 58; (with_reducible refine (HPT.out _ ((stepAny HL.out hb2).alloc (stepAny HL.out hb2).size _)).mono ?_); rintro e w4 ⟨v4, rfl, ho4, hb4⟩; have hs4 := own_sl0 ho4 HPL.out))
          go_ret3
          rw [HF.out]
          exact ⟨_, rfl, hs4, stepAny ((stepAny HL.out hb2).alloc (stepAny HL.out hb2).size _) hb4⟩
        · have HN2 := Lib.hid (HNX.out hk)
          have f7 : ((x.kind : Int) != 0) = true := by rw [bne_iff_ne]; omega
          clear hfile hk HNX
          go_wp2_with (first
            | (go_at_call 47; (with_reducible refine HRM.out.mono ?_); rintro e w2 ⟨rfl, hb2⟩)
            | (refine wpList_kind rfl 45 _ rfl x rfl (Try.kindRI x) ?_))
          go_roundw
          case rel => exact ⟨n + 1, by go_num, by omega, HN2, stepAny HL.out hb2⟩
          case measure => simp [intOf]; omega
      · obtain rfl : n = 32 := by omega
        have HF := Lib.hid (Nd.alloc_full HCKD.out (k := 1) (.inl rfl) HN.out)
        have HL := Lib.hid hl
        clear hl
        go_wp2_with fail
        go_ret3
        rw [HF.out]
        exact ⟨_, rfl, Sl.nil _ _, HL.out⟩
  · skip
    go_enter Try.func35, Try.ntmps35
    go_upto_region 6 with (go_at_call 22; (with_reducible refine HCK.out.mono ?_); rintro e w1 ⟨rfl, hb1⟩)
    have HL1 := Lib.hid hb1
    clear hb1
    go_wp2_with fail
    go_loopw [8] (fun nv wr => ∃ (n : Nat), nv = .int .i64 n ∧ n ≤ 32 ∧ Hid (∀ m, m < n → (Nd.raw d m).kind ≠ 0) ∧ Below w.heap.size w wr) (fun i _ => 32 - (intOf i).toNat)
    case atStart => exact ⟨0, rfl, by omega, fun m h => absurd h (Nat.not_lt_zero _), HL1.out⟩
    case round =>
      clear HL1
      obtain ⟨n, rfl, hn, HN, hl⟩ := hrel
      by_cases hlt : n < 32
      · have HRM := Lib.hid (HRW.out wr hl n hlt)
        have HL := Lib.hid hl
        have f5 : (0 : Int) ≤ (n : Int) := by omega
        have f6 : (n : Int) < 32 := by omega
        have hnone := fun h0 ht => Nd.alloc_none HCKD.out hlt HN.out h0 ht
        have hdir := fun h0 i h1 h2 ht => Nd.alloc_dir HD.out HCKD.out hlt HN.out h0 (i := i) h1 h2 ht
        have HNX : Hid ((Nd.raw d n).kind ≠ 0 → ∀ m, m < n + 1 → (Nd.raw d m).kind ≠ 0) := fun h m hm => by
          by_cases e : m = n
          · subst e; exact h
          · exact HN.out m (by omega)
        generalize Nd.raw d n = x at *
        clear hl
        by_cases hk : x.kind = 0
        · have HNO := Lib.hid (fun ht => hnone hk ht)
          have HDI := Lib.hid (fun i h1 h2 ht => hdir hk i h1 h2 ht)
          have f7 : ((x.kind : Int) != 0) = false := by rw [hk]; rfl
          clear hnone hdir hk HNX
          go_upto_region 11 with (first
            | (go_at_call 47; (with_reducible refine HRM.out.mono ?_); rintro e w2 ⟨rfl, hb2⟩)
            | (refine wpList_kind rfl 45 _ rfl x rfl (Try.kindRI x) ?_))
          have hk3 : Bk (w2.alloc (.cells #[.int .i64 2, .int .i64 0, .int .i64 0, .int .i64 0, .int .i64 0, .int .i64 0, .int .i64 0, .int .i64 0, .int .i64 0, .int .i64 0, .int .i64 0, .int .i64 0, .int .i64 0, .int .i64 0] 45 (0, 0))) w2.heap.size 45 [.int .i64 2, .int .i64 0, .int .i64 0, .int .i64 0, .int .i64 0, .int .i64 0, .int .i64 0, .int .i64 0, .int .i64 0, .int .i64 0, .int .i64 0, .int .i64 0, .int .i64 0, .int .i64 0] := Bk.new w2 _ [.int .i64 2, .int .i64 0, .int .i64 0, .int .i64 0, .int .i64 0, .int .i64 0, .int .i64 0, .int .i64 0, .int .i64 0, .int .i64 0, .int .i64 0, .int .i64 0, .int .i64 0, .int .i64 0]
          have hl3 : Below w.heap.size w (w2.alloc (.cells #[.int .i64 2, .int .i64 0, .int .i64 0, .int .i64 0, .int .i64 0, .int .i64 0, .int .i64 0, .int .i64 0, .int .i64 0, .int .i64 0, .int .i64 0, .int .i64 0, .int .i64 0, .int .i64 0] 45 (0, 0))) := (stepAny HL.out hb2).alloc (stepAny HL.out hb2).size _
          have hge : w.heap.size ≤ w2.heap.size := (stepAny HL.out hb2).size
          clear hb2
          generalize w2.alloc (.cells #[.int .i64 2, .int .i64 0, .int .i64 0, .int .i64 0, .int .i64 0, .int .i64 0, .int .i64 0, .int .i64 0, .int .i64 0, .int .i64 0, .int .i64 0, .int .i64 0, .int .i64 0, .int .i64 0] 45 (0, 0)) = w3 at *
          obtain ⟨bx, hbx⟩ : ∃ y, y = w2.heap.size := ⟨_, rfl⟩
          rw [← hbx] at hk3 hge ⊢
          have HTK := Lib.hid (rtk_w (HV.out.below hl3 (Nat.le_refl _)) HD.out)
          have HK3 := Lib.hid hk3
          have HL3 := Lib.hid hl3
          have HGE := Lib.hid hge
          clear hbx hk3 hl3 hge
          go_upto_region 14 with (go_at_call 69; (with_reducible refine HTK.out.mono ?_); rintro e w4 h4; rcases h4 with ⟨ht, rfl, hb4⟩ | ⟨i, g, c, hi1, hi2, ht, rfl, ho4, hb4⟩)
          · have HF := Lib.hid (HNO.out ht)
            clear ht
            go_wp2_with fail
            go_ret3
            rw [HF.out]
            exact ⟨_, rfl, Sl.nil _ _, stepAny HL3.out hb4⟩
          · have HF := Lib.hid (HDI.out i hi1 hi2 ht)
            have hzl : (Nd.zeroB (Nd.putB d (Ex.putB (Nd.bits d) i true)) i).length = 12288 := Nd.zeroB_len (Nd.putB_len HD.out (by rw [Ex.length_putB, Nd.bits_len HD.out])) hi2
            have hs4 := own_sl0 ho4 hzl
            have hk4 := HK3.out.below hb4 HK3.out.lt
            have hl4 := stepAny HL3.out hb4
            have hk5 : Bk ((w4.setCell ⟨bx, 1, none⟩ (.int .i64 128)).setCell ⟨bx, 2, none⟩ (.int .i64 (i : Int))) bx 45 (ic ⟨2, 128, (List.replicate 12 0).set 0 i⟩) := (hk4.set 1 (.int .i64 128)).set 2 (.int .i64 (i : Int))
            have hge := HGE.out
            have hl5 : Below w.heap.size w ((w4.setCell ⟨bx, 1, none⟩ (.int .i64 128)).setCell ⟨bx, 2, none⟩ (.int .i64 (i : Int))) := (hl4.setCell (by simp; omega) _).setCell (by simp; omega) _
            have hs5 : Sl eb ((w4.setCell ⟨bx, 1, none⟩ (.int .i64 128)).setCell ⟨bx, 2, none⟩ (.int .i64 (i : Int))) (.slice (some ⟨g, 0, none⟩) 12288 c) (Nd.zeroB (Nd.putB d (Ex.putB (Nd.bits d) i true)) i) := by
              have hgb := (ho4.lt g rfl).1
              have h3 := HK3.out.lt
              have h : w4.ownsRow w.heap.size 5 1 (.slice (some ⟨g, 0, none⟩) 12288 c) 12288 ((Nd.zeroB (Nd.putB d (Ex.putB (Nd.bits d) i true)) i).map eb) := own_base ho4 (by omega)
              have h2 := own_keep h (w' := (w4.setCell ⟨bx, 1, none⟩ (.int .i64 128)).setCell ⟨bx, 2, none⟩ (.int .i64 (i : Int))) (fun j hj => by
                have e : g = j := by simpa [Value.ownBlock] using hj
                subst e
                rw [Below.heap_setCell _ _ _ _ (by simp; omega), Below.heap_setCell _ _ _ _ (by simp; omega)])
              exact own_sl0 h2 hzl
            obtain ⟨z0, z1⟩ : w4.cell? ⟨bx, 1, none⟩ = some (.int .i64 0) ∧ w4.cell? ⟨bx, 2, none⟩ = some (.int .i64 0) := ⟨hk4.cell 1, hk4.cell 2⟩
            have y0 := hk4.frozen 1
            have y1 := hk4.frozen 2
            have HPT := Lib.hid (rput_w hs5 hzl n hlt ⟨2, 128, (List.replicate 12 0).set 0 i⟩ (by simp) (show (128 : Nat) < 65536 by decide))
            have HPL : Hid ((Nd.putI (Nd.zeroB (Nd.putB d (Ex.putB (Nd.bits d) i true)) i) n ⟨2, 128, (List.replicate 12 0).set 0 i⟩).length = 12288) := by
              show _ = _
              unfold Nd.putI
              rw [Nd.put_len (by rw [Nd.enc_len16 (by simp), hzl]; unfold Nd.at_; omega), hzl]
            have HK5 := Lib.hid hk5
            have HL5 := Lib.hid hl5
            have HYL : Hid ((⟨2, 128, (List.replicate 12 0).set 0 i⟩ : Nd.Ino).bl.length = 12) := by show _ = _; simp
            obtain ⟨Y, hY⟩ : ∃ Y : Nd.Ino, ⟨2, 128, (List.replicate 12 0).set 0 i⟩ = Y := ⟨_, rfl⟩
            rw [hY] at HK5 HPT HPL HF HYL
            clear hY
            clear ht hzl hs4 hk4 hl4 hk5 hl5 hs5 ho4 hb4 hge
            go_upto_region 18 with fail
            generalize (w4.setCell ⟨bx, 1, none⟩ (.int .i64 128)).setCell ⟨bx, 2, none⟩ (.int .i64 (i : Int)) = w5 at *
            go_wp2_with (first
              | (refine wpList_load_ino rfl 45 _ rfl bx rfl 45 Y HYL.out HK5.out _ Try.underlying45 rfl Try.sizeRI ?_; unfold iv)
              | (go_at_call 58; (with_reducible refine HPT.out.mono ?_); rintro e w6 ⟨v6, rfl, ho6, hb6⟩; have hs6 := own_sl0 ho6 HPL.out))
            go_ret3
            rw [HF.out]
            exact ⟨_, rfl, hs6, stepAny HL5.out hb6⟩
        · have HN2 := Lib.hid (HNX.out hk)
          have f7 : ((x.kind : Int) != 0) = true := by rw [bne_iff_ne]; omega
          clear hnone hdir hk HNX
          go_wp2_with (first
            | (go_at_call 47; (with_reducible refine HRM.out.mono ?_); rintro e w2 ⟨rfl, hb2⟩)
            | (refine wpList_kind rfl 45 _ rfl x rfl (Try.kindRI x) ?_))
          go_roundw
          case rel => exact ⟨n + 1, by go_num, by omega, HN2, stepAny HL.out hb2⟩
          case measure => simp [intOf]; omega
      · obtain rfl : n = 32 := by omega
        have HF := Lib.hid (Nd.alloc_full HCKD.out (k := 2) (.inr rfl) HN.out)
        have HL := Lib.hid hl
        clear hl
        go_wp2_with fail
        go_ret3
        rw [HF.out]
        exact ⟨_, rfl, Sl.nil _ _, HL.out⟩
end Go.Proofs.Ytbklmpekpcneeaa
