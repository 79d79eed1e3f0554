/-
  The walks of the view of inodes, the first part.
-/
import Derived.Test.YtbklmpekpcneeaaBe
import Derived.Test.YtbklmpekpcneeaaBb
import Derived.Test.YtbklmpekpcneeaaBa
set_option linter.unusedVariables false
set_option linter.unusedSimpArgs false
namespace Nd
theorem zs_any (l : List UInt8) : (!(Ix.any (fun k => l.getD k 0 != 0) l.length)) = zs l := by
  rcases Ix.idx_cases (fun k => l.getD k 0 != 0) l.length with ⟨_, h, hno⟩ | ⟨k, hk, _, h, hy, _⟩
  · rw [h]
    symm
    rw [show (!false) = true from rfl]
    refine zs_yes fun k hk => ?_
    have := hno k hk
    simpa [List.getD, hk] using this
  · rw [h]
    symm
    refine zs_no hk ?_
    simpa [List.getD, hk] using hy
/-- Bytes of one inode. -/
def pl (d : List UInt8) (n : Nat) : List UInt8 := (d.drop (at_ n)).take 16
theorem pl_len {d : List UInt8} (hd : d.length = 12288) {n : Nat} (hn : n < 32) : (pl d n).length = 16 := by unfold pl at_; rw [List.length_take, List.length_drop]; omega
theorem pl_g (d : List UInt8) (n : Nat) {j : Nat} (hj : j < 16) : g (pl d n) j = g d (at_ n + j) := by
  unfold g pl
  rw [List.getD_eq_getElem?_getD, List.getD_eq_getElem?_getD, List.getElem?_take, if_pos hj, List.getElem?_drop]
theorem pl_dec (d : List UInt8) (n : Nat) : dec (pl d n) 0 = raw d n := by
  have h : ∀ j, j < 15 → g (pl d n) (0 + j) = g d (at_ n + j) := fun j hj => by rw [Nat.zero_add]; exact pl_g d n (by omega)
  unfold raw dec
  have h0 := h 0 (by omega)
  simp only [Nat.add_zero] at h0
  rw [h0, h 1 (by omega), h 2 (by omega)]
  simp only [Ino.mk.injEq, true_and]
  apply List.map_congr_left
  intro i hi
  have := List.mem_range.1 hi
  have h3 := h (3 + i) (by omega)
  rw [← Nat.add_assoc, ← Nat.add_assoc] at h3
  rw [h3]
/-- Some blocks of an inode are read. -/
theorem or_shl (a b : Nat) (hb : b < 256) : (a * 256) ||| b = 256 * a + b := by
  have h := Nat.shiftLeft_add_eq_or_of_lt (i := 8) (b := b) (by simpa using hb) a
  rw [Nat.shiftLeft_eq] at h
  have e : (2 : Nat) ^ 8 = 256 := rfl
  rw [e] at h
  rw [← h]
  omega
end Nd
namespace Go.Proofs.Ytbklmpekpcneeaa
open Go.RowKit
set_option maxRecDepth 100000

/-- The cells of a view. -/
def vc (dv : Value) (l : List Nd.Ino) (bv : Value) : List Value := dv :: (l.flatMap ic ++ [bv])
theorem Try.sizeII : (Try.prog.info? 42).map (·.size) = some 14 := by kernel_rfl

theorem vparts_w (n : Nat) (hn : n ≤ 100000) (w : World) : Calls Try.prog 41 #[.int .i64 (n : Int)] w fun e w' => e = .returned (.int .i64 (((n + 127) / 128 : Nat) : Int)) ∧ w = w' := by
  have e1 : IntKind.i64.wrap ((n : Int) + 128) = (n : Int) + 128 := IntWalk.i64_in _ (by omega)
  have e2 : IntKind.i64.wrap ((n : Int) + 128 - 1) = (n : Int) + 128 - 1 := IntWalk.i64_in _ (by omega)
  have e3 : IntKind.i64.wrap (((n : Int) + 128 - 1) / 128) = (((n + 127) / 128 : Nat) : Int) := by rw [IntWalk.i64_in _ (by omega)]; omega
  have f1 : (0 : Int) ≤ (n : Int) + 128 - 1 := by omega
  go_enter Try.func41, Try.ntmps41
  go_wp2_with fail
  go_ret
  exact ⟨by first | rfl | (simp; omega), rfl⟩

theorem vblock_w (g a off cap k : Nat) (hk : k < 96) (hc : 12288 ≤ cap) (hm : cap ≤ maxLen) {w : World} (hz : w.cell? ⟨a, 0, none⟩ = some (.slice (some ⟨g, off, none⟩) 12288 cap)) :
    Calls Try.prog 43 #[.pointer (some ⟨a, 0, none⟩), .int .i64 (k : Int)] w fun e w' => e = .returned (.slice (some ⟨g, off + k * 128, none⟩) 128 (cap - k * 128)) ∧ w = w' := by
  unfold maxLen at hm
  have f1 : (0 : Int) ≤ (k : Int) * 128 := by omega
  have f2 : (k : Int) * 128 ≤ ((k : Int) + 1) * 128 := by omega
  have f3 : ((k : Int) + 1) * 128 ≤ (cap : Int) := by omega
  have e1 : IntKind.i64.wrap ((k : Int) * 128) = (k : Int) * 128 := IntWalk.i64_in _ (by omega)
  have e2 : IntKind.i64.wrap ((k : Int) + 1) = (k : Int) + 1 := IntWalk.i64_in _ (by omega)
  have e3 : IntKind.i64.wrap (((k : Int) + 1) * 128) = ((k : Int) + 1) * 128 := IntWalk.i64_in _ (by omega)
  have e4 : (((k : Int) + 1) * 128).toNat - ((k : Int) * 128).toNat = 128 := by omega
  have e5 : ((k : Int) * 128).toNat = k * 128 := by omega
  go_enter Try.func43, Try.ntmps43
  go_wp2_with fail
  go_ret
  refine ⟨?_, rfl⟩
  congr 2
  first | rfl | (simp; omega)

theorem vplace_w (g a off cap n : Nat) (hn : n < 32) (hc : 12288 ≤ cap) (hm : cap ≤ maxLen) {w : World} (hz : w.cell? ⟨a, 0, none⟩ = some (.slice (some ⟨g, off, none⟩) 12288 cap)) :
    Calls Try.prog 73 #[.pointer (some ⟨a, 0, none⟩), .int .i64 (n : Int)] w fun e w' => e = .returned (.slice (some ⟨g, off + Nd.at_ n, none⟩) 16 (cap - Nd.at_ n)) ∧ w = w' := by
  unfold maxLen at hm
  obtain ⟨p, hp⟩ : ∃ p, Nd.at_ n = p := ⟨_, rfl⟩
  have hp' : p = 1792 + 16 * n := hp.symm
  rw [hp]
  have e1 : IntKind.i64.wrap ((n : Int) * 16) = (n : Int) * 16 := IntWalk.i64_in _ (by omega)
  have e2 : IntKind.i64.wrap (1792 + (n : Int) * 16) = (p : Int) := by rw [IntWalk.i64_in _ (by omega)]; omega
  have e3 : IntKind.i64.wrap ((p : Int) + 16) = (p : Int) + 16 := IntWalk.i64_in _ (by omega)
  have f1 : (0 : Int) ≤ (p : Int) := by omega
  have f2 : (p : Int) ≤ (p : Int) + 16 := by omega
  have f3 : (p : Int) + 16 ≤ (cap : Int) := by omega
  have f4 : p + 16 - p = 16 := by omega
  clear hp hp'
  go_enter Try.func73, Try.ntmps73
  go_wp2_with fail
  go_ret
  refine ⟨?_, rfl⟩
  first | rfl | (congr 2; simp)

theorem vzero1_w (x : UInt8) (w : World) : Calls Try.prog 87 #[eb x] w fun e w' => e = .returned (.bool (x != 0)) ∧ w = w' := by
  unfold eb
  by_cases h : x = 0
  · have f1 : ((x.toNat : Int) != 0) = false := by rw [h]; rfl
    have HR : Hid ((x != 0) = false) := by show _ = _; rw [h]; rfl
    clear h
    go_enter Try.func87, Try.ntmps87
    go_wp2_with fail
    go_ret
    exact ⟨ret_bool HR.out.symm, rfl⟩
  · have f1 : ((x.toNat : Int) != 0) = true := eb_ne (y := 0) h
    have HR : Hid ((x != 0) = true) := by show _ = _; simpa using h
    clear h
    go_enter Try.func87, Try.ntmps87
    go_wp2_with fail
    go_ret
    exact ⟨ret_bool HR.out.symm, rfl⟩

theorem vzero_w {v : Value} {l : List UInt8} {w : World} (hv : Sl eb w v l) (hl : l.length ≤ 100000) : Calls Try.prog 74 #[v] w fun e w' => e = .returned (.bool (Nd.zs l)) ∧ w = w' := by
  obtain ⟨a, cap, rfl, h1, h2, h3, hr⟩ := hv
  have eg := enters_of Try.func87 (by kernel_rfl) rfl
  have HX : Hid (Calls Try.prog 86 #[.slice a l.length cap, .func (.func 87) #[] #[]] w fun e w' => e = .returned (.bool (Ix.any (fun k => l.getD k 0 != 0) l.length)) ∧ w = w') := by
    refine (containsFunc_by eb a cap l 87 #[] (fun k => l.getD k 0 != 0) (fun _ W => w = W) w (by omega) eg ?_ rfl ?_).mono ?_
    · rintro k W rfl; exact hr
    · rintro k W hk rfl
      refine (vzero1_w l[k] w).mono fun e W' ⟨h1, h2⟩ => ⟨?_, h2⟩
      rw [h1]
      simp [List.getD, hk]
    · rintro e w' ⟨h1, k, _, h2⟩
      exact ⟨h1, h2⟩
  have HA := Lib.hid (Nd.zs_any l)
  generalize Ix.any (fun k => l.getD k 0 != 0) l.length = r at *
  clear hr
  go_enter Try.func74, Try.ntmps74
  go_wp2_with (go_at_call 86; refine HX.out.mono ?_; rintro e w' ⟨rfl, rfl⟩)
  go_ret
  exact ⟨ret_bool HA.out, rfl⟩

theorem or_i64 (a b : Nat) (ha : a < 65536) (hb : b < 65536) : bits BinOp.or IntKind.i64 (a : Int) (b : Int) = ((a ||| b : Nat) : Int) := by
  have hx : a ||| b < 2 ^ 16 := Nat.or_lt_two_pow (by omega) (by omega)
  have h1 : (BitVec.ofInt 64 (a : Int)).toNat = a := by rw [BitVec.ofInt_natCast, BitVec.toNat_ofNat]; exact Nat.mod_eq_of_lt (by omega)
  have h2 : (BitVec.ofInt 64 (b : Int)).toNat = b := by rw [BitVec.ofInt_natCast, BitVec.toNat_ofNat]; exact Nat.mod_eq_of_lt (by omega)
  show IntKind.i64.wrap ((BitVec.ofInt 64 (a : Int) ||| BitVec.ofInt 64 (b : Int)).toNat : Int) = _
  rw [BitVec.toNat_or, h1, h2, IntWalk.i64_in _ (by omega)]

set_option maxHeartbeats 1600000 in
theorem vparse_w {v : Value} {l : List UInt8} {w : World} (hv : Sl eb w v l) (hl : l.length = 16) : Calls Try.prog 75 #[v] w fun e w' => e = .returned (iv (Nd.dec l 0)) ∧ Below w.heap.size w w' := by
  obtain ⟨a, cap, rfl, hc, hm, -, hr⟩ := id hv
  rw [hl] at hv hc ⊢
  obtain ⟨b, off, rfl, hb, -⟩ := hv.addr (by omega)
  have hcell : ∀ W, Below w.heap.size w W → ∀ i, i < 16 → W.cell? ⟨b, off + i, none⟩ = some (eb (Nd.g l i)) := fun W hW i hi => by
    rw [hW.cell (p := ⟨b, off + i, none⟩) hb, (hr.at i (by omega)).2, Nd.g_get (by omega)]
  have HC := Lib.hid hcell
  unfold maxLen at hm
  have HR : Hid (Nd.dec l 0 = Nd.decTo l 0 12) := by show _ = _; rw [Nd.decTo_all]
  have HRL : Hid ((Nd.dec l 0).bl.length = 12) := by simp [Nd.dec, Hid]
  obtain ⟨W1, hW1⟩ : ∃ W, W = w.alloc (.cells #[.int .i64 0, .int .i64 0, .int .i64 0, .int .i64 0, .int .i64 0, .int .i64 0, .int .i64 0, .int .i64 0, .int .i64 0, .int .i64 0, .int .i64 0, .int .i64 0, .int .i64 0, .int .i64 0] 42 (0, 0)) := ⟨_, rfl⟩
  have hs1 : W1.heap.size = w.heap.size + 1 := by rw [hW1]; simp
  have hl1 : Below w.heap.size w W1 := by rw [hW1]; exact low_alloc _ _
  have hk1 : Bk W1 w.heap.size 42 [.int .i64 0, .int .i64 0, .int .i64 0, .int .i64 0, .int .i64 0, .int .i64 0, .int .i64 0, .int .i64 0, .int .i64 0, .int .i64 0, .int .i64 0, .int .i64 0, .int .i64 0, .int .i64 0] := by rw [hW1]; exact Bk.new w _ [.int .i64 0, .int .i64 0, .int .i64 0, .int .i64 0, .int .i64 0, .int .i64 0, .int .i64 0, .int .i64 0, .int .i64 0, .int .i64 0, .int .i64 0, .int .i64 0, .int .i64 0, .int .i64 0]
  have HW1 := Lib.hid hW1
  have HQ : Hid (∀ W, Below w.heap.size w W → W.cell? ⟨b, off, none⟩ = some (eb (Nd.g l 0)) ∧ W.cell? ⟨b, off + 1, none⟩ = some (eb (Nd.g l 1)) ∧ W.cell? ⟨b, off + 2, none⟩ = some (eb (Nd.g l 2))) := fun W hW => ⟨hcell W hW 0 (by omega), hcell W hW 1 (by omega), hcell W hW 2 (by omega)⟩
  unfold eb at HQ
  clear hv hl hr hcell hW1
  go_enter Try.func75, Try.ntmps75
  go_upto_region 1 with fail
  rw [← HW1.out]
  obtain ⟨y0, y1, y2⟩ := HQ.out W1 hl1
  have HX0 : Hid (ic (Nd.decTo l 0 0) = [.int .i64 ((Nd.g l 0).toNat : Int), .int .i64 (256 * ((Nd.g l 1).toNat : Int) + ((Nd.g l 2).toNat : Int)), .int .i64 0, .int .i64 0, .int .i64 0, .int .i64 0, .int .i64 0, .int .i64 0, .int .i64 0, .int .i64 0, .int .i64 0, .int .i64 0, .int .i64 0, .int .i64 0]) := by
    show _ = _
    simp only [ic, Nd.decTo, Nat.not_lt_zero, if_false, Int.natCast_add, Int.natCast_mul]
    rfl
  have hq0 := (Nd.g l 0).toNat_lt
  have hq1 := (Nd.g l 1).toNat_lt
  have hq2 := (Nd.g l 2).toNat_lt
  generalize (Nd.g l 0).toNat = k0 at *
  generalize (Nd.g l 1).toNat = k1 at *
  generalize (Nd.g l 2).toNat = k2 at *
  have e0 : IntKind.i64.wrap (k0 : Int) = (k0 : Int) := IntWalk.i64_in _ (by omega)
  have e1 : IntKind.i64.wrap (k1 : Int) = (k1 : Int) := IntWalk.i64_in _ (by omega)
  have e2 : IntKind.i64.wrap (k2 : Int) = (k2 : Int) := IntWalk.i64_in _ (by omega)
  have e3 : IntKind.i64.wrap ((k1 : Int) * 256) = (k1 : Int) * 256 := IntWalk.i64_in _ (by omega)
  have e4 : bits BinOp.or IntKind.i64 ((k1 : Int) * 256) (k2 : Int) = 256 * (k1 : Int) + (k2 : Int) := by
    have h := or_i64 (k1 * 256) k2 (by omega) (by omega)
    rw [Nd.or_shl k1 k2 hq2] at h
    simpa using h
  go_region_held3 (fun w' => w'.cell? ⟨b, off, none⟩ = some (.int .u8 (k0 : Int)) ∧ w'.cell? ⟨b, off + 1, none⟩ = some (.int .u8 (k1 : Int)) ∧ w'.cell? ⟨b, off + 2, none⟩ = some (.int .u8 (k2 : Int))) (first | with_reducible assumption | go_keep) (fail)
  obtain ⟨W2, hW2⟩ : ∃ W, W = (W1.alloc (.cells #[.int .i64 (k0 : Int), .int .i64 (256 * (k1 : Int) + (k2 : Int)), .int .i64 0, .int .i64 0, .int .i64 0, .int .i64 0, .int .i64 0, .int .i64 0, .int .i64 0, .int .i64 0, .int .i64 0, .int .i64 0, .int .i64 0, .int .i64 0] 42 (0, 0))).drew := ⟨_, rfl⟩
  have hk2 : Bk W2 (w.heap.size + 1) 42 (ic (Nd.decTo l 0 0)) := by
    rw [hW2, HX0.out]
    exact Bk.newAt W1 _ [.int .i64 (k0 : Int), .int .i64 (256 * (k1 : Int) + (k2 : Int)), .int .i64 0, .int .i64 0, .int .i64 0, .int .i64 0, .int .i64 0, .int .i64 0, .int .i64 0, .int .i64 0, .int .i64 0, .int .i64 0, .int .i64 0, .int .i64 0] hs1.symm
  have hz2 : Bk W2 w.heap.size 42 [.int .i64 0, .int .i64 0, .int .i64 0, .int .i64 0, .int .i64 0, .int .i64 0, .int .i64 0, .int .i64 0, .int .i64 0, .int .i64 0, .int .i64 0, .int .i64 0, .int .i64 0, .int .i64 0] := by rw [hW2]; exact (hk1.alloc _).keep rfl
  have hl2 : Below w.heap.size w W2 := by rw [hW2]; exact (hl1.alloc (by omega) _).drew
  rw [← hW2]
  clear hW2 y0 y1 y2 e0 e1 e2 e3 e4 hk1 hl1 HQ
  go_wp2_with fail
  go_loopw [4, 20] (fun _ i wr => ∃ k : Nat, i = .int .i64 k ∧ k ≤ 12 ∧ Bk wr (w.heap.size + 1) 42 (ic (Nd.decTo l 0 k)) ∧ Bk wr w.heap.size 42 [.int .i64 0, .int .i64 0, .int .i64 0, .int .i64 0, .int .i64 0, .int .i64 0, .int .i64 0, .int .i64 0, .int .i64 0, .int .i64 0, .int .i64 0, .int .i64 0, .int .i64 0, .int .i64 0] ∧ Below w.heap.size w wr) (fun _ i _ => 12 - (intOf i).toNat)
  case atStart => exact ⟨0, rfl, by omega, hk2, hz2, hl2⟩
  case round =>
    obtain ⟨k, rfl, hk, hbk, hbz, hbl⟩ := hrel
    by_cases hlt : k < 12
    · have y3 : wr.cell? ⟨b, off + (3 + k), none⟩ = some (.int .u8 ((Nd.g l (3 + k)).toNat : Int)) := HC.out wr hbl (3 + k) (by omega)
      have z0 : wr.cell? ⟨w.heap.size + 1, 2 + k, none⟩ = some (.int .i64 ((Nd.bk (Nd.decTo l 0 k) k : Nat) : Int)) := by rw [hbk.cell]; exact ic_bk (Nd.decTo_len _ _ _) hlt
      have zf := hbk.frozen (2 + k)
      have HN : Hid (Bk (wr.setCell ⟨w.heap.size + 1, 2 + k, none⟩ (.int .i64 ((Nd.g l (3 + k)).toNat : Int))) (w.heap.size + 1) 42 (ic (Nd.decTo l 0 (k + 1)))) := by
        have := hbk.set (2 + k) (.int .i64 ((Nd.g l (3 + k)).toNat : Int))
        have e := Nd.decTo_step l 0 k
        rw [Nat.zero_add] at e
        rw [ic_setBl, e] at this
        exact this
      have HZ : Hid (Bk (wr.setCell ⟨w.heap.size + 1, 2 + k, none⟩ (.int .i64 ((Nd.g l (3 + k)).toNat : Int))) w.heap.size 42 [.int .i64 0, .int .i64 0, .int .i64 0, .int .i64 0, .int .i64 0, .int .i64 0, .int .i64 0, .int .i64 0, .int .i64 0, .int .i64 0, .int .i64 0, .int .i64 0, .int .i64 0, .int .i64 0]) := hbz.far (by simp) _
      have HL : Hid (Below w.heap.size w (wr.setCell ⟨w.heap.size + 1, 2 + k, none⟩ (.int .i64 ((Nd.g l (3 + k)).toNat : Int)))) := hbl.setCell (by simp) _
      have hx := (Nd.g l (3 + k)).toNat_lt
      generalize (Nd.g l (3 + k)).toNat = x at *
      have e0 : IntKind.i64.wrap (x : Int) = (x : Int) := IntWalk.i64_in _ (by omega)
      have e1 : IntKind.i64.wrap (3 + (k : Int)) = ((3 + k : Nat) : Int) := by rw [IntWalk.i64_in _ (by omega)]; omega
      have f5 : (0 : Int) ≤ (k : Int) := by omega
      have f6 : (k : Int) < 12 := by omega
      have f7 : (0 : Int) ≤ ((3 + k : Nat) : Int) := by omega
      have f8 : ((3 + k : Nat) : Int) < 16 := by omega
      obtain ⟨q, hq⟩ : ∃ q, 3 + k = q := ⟨_, rfl⟩
      rw [hq] at y3 e1 f7 f8
      clear hbk hbz hbl hq
      go_wp2_with fail
      go_roundw
      case rel => exact ⟨k + 1, by go_num, by omega, HN.out, HZ.out, HL.out⟩
      case measure => simp [intOf]; omega
    · obtain rfl : k = 12 := by omega
      rw [← HR.out] at hbk
      go_wp2_with (first
        | (refine wpList_load_ino rfl 42 _ rfl (w.heap.size + 1) rfl 42 (Nd.dec l 0) HRL.out hbk _ Try.underlying42 rfl Try.sizeII ?_)
        | (refine wpList_store_part rfl 42 _ _ rfl w.heap.size 0 14 (ic (Nd.dec l 0)) rfl rfl 42 _ hbz (ic_len HRL.out) (by simp) Try.sizeII (ic_one _) ?_; intro w3 hk3 hg3))
      rw [splice_all _ _ (by rw [ic_len HRL.out]; rfl)] at hk3
      (try simp only [Exit.inBlock, Exit.then])
      exact bodyPost_ret (results_ino rfl _ _ (Nd.dec l 0) HRL.out w.heap.size rfl _ hk3 _ Try.underlying42 rfl Try.sizeII) rfl ⟨rfl, hbl.trans (below_of_grown hg3 (Nat.le_refl _) hbl.size)⟩
end Go.Proofs.Ytbklmpekpcneeaa
namespace Nd
/-- Inodes whose lists of blocks are as long as they are. -/
def Full (l : List Ino) : Prop := l.length = 32 ∧ ∀ x ∈ l, x.bl.length = 12
theorem Full.get {l : List Ino} (h : Full l) {n : Nat} (hn : n < 32) : (l[n]'(by rw [h.1]; exact hn)).bl.length = 12 := h.2 _ (List.getElem_mem _)
theorem Full.set {l : List Ino} (h : Full l) (n : Nat) {x : Ino} (hx : x.bl.length = 12) : Full (l.set n x) := ⟨by rw [List.length_set]; exact h.1, fun y hy => by
  rcases List.mem_or_eq_of_mem_set hy with hy | rfl
  · exact h.2 y hy
  · exact hx⟩
theorem Full.inos (d : List UInt8) : Full (inos d) := ⟨inos_len d, fun x hx => by
  obtain ⟨m, -, rfl⟩ := mem_inos.1 hx
  exact (raw_enc d m).n⟩
/-- What get answers. -/
def lget (l : List Ino) (n : Int) : Ino × Int := if n < 0 ∨ 32 ≤ n then (free, 2) else if (l.getD n.toNat free).kind = 0 then (free, 8) else (l.getD n.toNat free, 0)
theorem lget_bl {l : List Ino} (h : Full l) (n : Int) : (lget l n).1.bl.length = 12 := by
  unfold lget
  split
  · rfl
  · split
    · rfl
    · rename_i hn _
      have : n.toNat < l.length := by rw [h.1]; omega
      rw [List.getD_eq_getElem?_getD, List.getElem?_eq_getElem this]
      exact h.2 _ (List.getElem_mem _)
theorem lget_inos {d : List UInt8} (h : check d = 0) (n : Int) : lget (inos d) n = get d n := by
  unfold lget get
  rw [if_neg (show ¬ check d ≠ 0 by simp [h])]
  by_cases hn : n < 0 ∨ 32 ≤ n
  · rw [if_pos hn, if_pos hn]
  · rw [if_neg hn, if_neg hn]
    have e : (inos d).getD n.toNat free = raw d n.toNat := by
      rw [List.getD_eq_getElem?_getD, raw_get d (by omega)]; rfl
    rw [e]
end Nd
namespace Go.Proofs.Ytbklmpekpcneeaa
open Go.RowKit
set_option maxRecDepth 100000

theorem fm_get : ∀ (l : List Nd.Ino) (n j : Nat), (∀ x ∈ l, x.bl.length = 12) → j < 14 → (hn : n < l.length) → (l.flatMap ic)[14 * n + j]? = (ic l[n])[j]?
  | [], _, _, _, _, hn => absurd hn (by simp)
  | x :: l, 0, j, h, hj, _ => by
    rw [List.flatMap_cons, List.getElem?_append_left (by rw [ic_len (h x (.head _))]; omega)]
    simp
  | x :: l, n + 1, j, h, hj, hn => by
    rw [List.flatMap_cons, List.getElem?_append_right (by rw [ic_len (h x (.head _))]; omega), ic_len (h x (.head _)), show 14 * (n + 1) + j - 14 = 14 * n + j by omega]
    exact fm_get l n j (fun y hy => h y (.tail _ hy)) hj (by simpa using hn)
theorem fm_len : ∀ (l : List Nd.Ino), (∀ x ∈ l, x.bl.length = 12) → (l.flatMap ic).length = 14 * l.length
  | [], _ => rfl
  | x :: l, h => by rw [List.flatMap_cons, List.length_append, ic_len (h x (.head _)), fm_len l (fun y hy => h y (.tail _ hy)), List.length_cons]; omega
section
variable {dv bv : Value} {l : List Nd.Ino} (hl : Nd.Full l)
include hl
theorem vc_len : (vc dv l bv).length = 450 := by unfold vc; rw [List.length_cons, List.length_append, fm_len l hl.2, hl.1]; rfl
omit hl in
theorem vc_disk : (vc dv l bv)[0]? = some dv := rfl
theorem vc_bits : (vc dv l bv)[449]? = some bv := by
  unfold vc
  rw [List.getElem?_cons_succ, List.getElem?_append_right (by rw [fm_len l hl.2, hl.1]; omega), fm_len l hl.2, hl.1]
  rfl
theorem vc_ino {n j : Nat} (hn : n < 32) (hj : j < 14) : (vc dv l bv)[1 + 14 * n + j]? = (ic (l[n]'(by rw [hl.1]; exact hn)))[j]? := by
  unfold vc
  rw [show 1 + 14 * n + j = 14 * n + j + 1 by omega, List.getElem?_cons_succ, List.getElem?_append_left (by rw [fm_len l hl.2, hl.1]; omega)]
  exact fm_get l n j hl.2 hj _
theorem vc_part {n : Nat} (hn : n < 32) : ((vc dv l bv).drop (1 + 14 * n)).take 14 = ic (l[n]'(by rw [hl.1]; exact hn)) := by
  apply List.ext_getElem?
  intro j
  rw [List.getElem?_take]
  by_cases hj : j < 14
  · rw [if_pos hj, List.getElem?_drop, vc_ino hl hn hj]
  · rw [if_neg hj, List.getElem?_eq_none (by rw [ic_len (hl.get hn)]; omega)]
theorem vc_set (b' : Value) : (vc dv l bv).set 449 b' = vc dv l b' := by
  have e : (l.flatMap ic).length = 448 := by rw [fm_len l hl.2, hl.1]
  unfold vc
  rw [show (449 : Nat) = 448 + 1 from rfl, List.set_cons_succ, List.set_append_right _ _ (by omega), e]
  rfl
theorem vc_splice {n : Nat} (hn : n < 32) {x : Nd.Ino} (hx : x.bl.length = 12) : splice (vc dv l bv) (1 + 14 * n) (ic x) = vc dv (l.set n x) bv := by
  have hl2 := hl.set n hx
  apply List.ext_getElem?
  intro j
  rw [splice_get _ _ _ (by rw [vc_len hl, ic_len hx]; omega), ic_len hx]
  by_cases h0 : j = 0
  · subst h0; rw [if_pos (by omega)]; rfl
  by_cases h4 : 450 ≤ j
  · rw [if_neg (by omega), if_neg (by omega), List.getElem?_eq_none (by rw [vc_len hl]; omega), List.getElem?_eq_none (by rw [vc_len hl2]; omega)]
  by_cases h9 : j = 449
  · subst h9; rw [if_neg (by omega), if_neg (by omega), vc_bits hl, vc_bits hl2]
  have ej : j = 1 + 14 * ((j - 1) / 14) + (j - 1) % 14 := by omega
  have hq : (j - 1) / 14 < 32 := by omega
  have h2 := vc_ino (dv := dv) (bv := bv) hl2 hq (j := (j - 1) % 14) (by omega)
  rw [← ej] at h2
  rw [h2]
  simp only [List.getElem_set]
  by_cases hqn : n = (j - 1) / 14
  · rw [if_neg (by omega), if_pos (by omega), if_pos hqn]
    congr 1; omega
  · rw [if_neg hqn]
    have h1 := vc_ino (dv := dv) (bv := bv) hl hq (j := (j - 1) % 14) (by omega)
    rw [← ej] at h1
    rw [← h1]
    split
    · rfl
    · rw [if_neg (by omega)]
end

/-- A view in memory. -/
structure Vw (w : World) (a : Nat) (dv bv : Value) (l : List Nd.Ino) : Prop where
  k : Bk w a 85 (vc dv l bv)
  f : Nd.Full l
theorem Vw.below {w w' : World} {a B : Nat} {dv bv : Value} {l : List Nd.Ino} (h : Vw w a dv bv l) (hb : Below B w w') (hB : a < B) : Vw w' a dv bv l := ⟨h.k.below hb hB, h.f⟩
theorem Vw.disk {w : World} {a : Nat} {dv bv : Value} {l : List Nd.Ino} (h : Vw w a dv bv l) : w.cell? ⟨a, 0, none⟩ = some dv := h.k.cell 0
theorem Vw.bits {w : World} {a : Nat} {dv bv : Value} {l : List Nd.Ino} (h : Vw w a dv bv l) : w.cell? ⟨a, 449, none⟩ = some bv ∧ w.frozen? ⟨a, 449, none⟩ = false := ⟨by rw [h.k.cell]; exact vc_bits h.f, h.k.frozen 449⟩
theorem Vw.kind {w : World} {a : Nat} {dv bv : Value} {l : List Nd.Ino} (h : Vw w a dv bv l) {n : Nat} (hn : n < 32) : w.cell? ⟨a, 1 + n * 14, none⟩ = some (.int .i64 ((l.getD n Nd.free).kind : Int)) := by
  have h2 := vc_ino (dv := dv) (bv := bv) h.f hn (j := 0) (by omega)
  have e : l.getD n Nd.free = l[n]'(by rw [h.f.1]; exact hn) := by rw [List.getD_eq_getElem?_getD, List.getElem?_eq_getElem (by rw [h.f.1]; exact hn)]; rfl
  rw [h.k.cell, show 1 + n * 14 = 1 + 14 * n + 0 by omega, h2, e]
  rfl
theorem Vw.set_bits {w : World} {a : Nat} {dv bv : Value} {l : List Nd.Ino} (h : Vw w a dv bv l) (b' : Value) : Vw (w.setCell ⟨a, 449, none⟩ b') a dv b' l := ⟨by have := h.k.set 449 b'; rw [vc_set h.f] at this; exact this, h.f⟩

section
variable {P : Program} {w : World} {ops : Array Oper} {rest : List Oper} {o : Oper} {ac : Act} {Q : Exit → Act → World → Prop}
/-- An inode out of a view. -/
theorem wpList_load_vino (hgd : o.guard = none) (ty : TypeId) (x : Operand) (ho : o.op = .load ty x) (a n k : Nat) (hx : ac.eval x = .pointer (some ⟨a, k, none⟩)) (hk : k = 1 + 14 * n) {dv bv : Value} {l : List Nd.Ino} (h : Vw w a dv bv l) (hn : n < 32) (y : Nd.Ino) (hy : l.getD n Nd.free = y)
    (d : TypeDesc) (hu : P.underlying ty = some d) (hd : d.isRow = true) (hi : (P.info? ty).map (·.size) = some 14)
    (hw : wpList P ops Q rest (ac.put o.dst (iv y)) w) : wpList P ops Q (o :: rest) ac w := by
  subst hk hy
  refine wpList_load_part hgd ty x ho a (1 + 14 * n) 14 hx _ _ h.k (by rw [vc_len h.f]; omega) d hu hd hi ?_
  rw [vc_part h.f hn]
  rw [List.getD_eq_getElem?_getD, List.getElem?_eq_getElem (by rw [h.f.1]; exact hn)] at hw
  exact hw
/-- An inode into a view. -/
theorem wpList_store_vino (hgd : o.guard = none) (ty : TypeId) (x y : Operand) (ho : o.op = .store ty x y) (a n k : Nat) (hx : ac.eval x = .pointer (some ⟨a, k, none⟩)) (hk : k = 1 + 14 * n) (z : Nd.Ino) (hz : z.bl.length = 12) (hy : ac.eval y = .agg (ic z).toArray) {dv bv : Value} {l : List Nd.Ino} (h : Vw w a dv bv l) (hn : n < 32)
    (hi : (P.info? ty).map (·.size) = some 14) (hw : ∀ w', Vw w' a dv bv (l.set n z) → w.grownBy w' (some a) → wpList P ops Q rest (ac.put o.dst undef) w') : wpList P ops Q (o :: rest) ac w := by
  subst hk
  refine wpList_store_part hgd ty x y ho a (1 + 14 * n) 14 (ic z) hx hy _ _ h.k (ic_len hz) (by rw [vc_len h.f]; omega) hi (ic_one z) fun w' hk' hg => hw w' ⟨?_, h.f.set n hz⟩ hg
  rw [vc_splice h.f hn hz] at hk'
  exact hk'
end

set_option maxHeartbeats 1600000 in
theorem vget_w {w : World} {a : Nat} {dv bv : Value} {l : List Nd.Ino} (h : Vw w a dv bv l) (n : Int) : Calls Try.prog 71 #[.pointer (some ⟨a, 0, none⟩), .int .i64 n] w fun e w' => e = .returned (.tuple #[.agg (ic (Nd.lget l n).1).toArray, .int .i64 (Nd.lget l n).2]) ∧ Below w.heap.size w w' := by
  have ha := h.k.lt
  obtain ⟨W1, hW1⟩ : ∃ W, W = w.alloc (.cells #[.int .i64 0, .int .i64 0, .int .i64 0, .int .i64 0, .int .i64 0, .int .i64 0, .int .i64 0, .int .i64 0, .int .i64 0, .int .i64 0, .int .i64 0, .int .i64 0, .int .i64 0, .int .i64 0] 42 (0, 0)) := ⟨_, rfl⟩
  have hl1 : Below w.heap.size w W1 := by rw [hW1]; exact low_alloc _ _
  have hk1 : Bk W1 w.heap.size 42 [.int .i64 0, .int .i64 0, .int .i64 0, .int .i64 0, .int .i64 0, .int .i64 0, .int .i64 0, .int .i64 0, .int .i64 0, .int .i64 0, .int .i64 0, .int .i64 0, .int .i64 0, .int .i64 0] := by rw [hW1]; exact Bk.new w _ [.int .i64 0, .int .i64 0, .int .i64 0, .int .i64 0, .int .i64 0, .int .i64 0, .int .i64 0, .int .i64 0, .int .i64 0, .int .i64 0, .int .i64 0, .int .i64 0, .int .i64 0, .int .i64 0]
  have HW1 := Lib.hid hW1
  have HL1 := Lib.hid hl1
  have HK1 := Lib.hid hk1
  have HV1 := Lib.hid (h.below hl1 ha)
  clear hW1 hl1 hk1
  by_cases hn : n < 0 ∨ 32 ≤ n
  · have HG : Hid (Nd.lget l n = (Nd.free, 2)) := if_pos hn
    clear h
    rcases hn with hn | hn
    all_goals
      go_enter Try.func71, Try.ntmps71
      go_upto_region 1 with fail
      rw [← HW1.out]
      go_wp2_with (refine wpList_store_part rfl 42 _ _ rfl w.heap.size 0 14 (ic Nd.free) rfl rfl 42 _ HK1.out rfl (by simp) Try.sizeII (ic_one _) ?_; intro w2 hk2 hg2)
      rw [splice_all _ _ (by rfl)] at hk2
      (try simp only [Exit.inBlock, Exit.then])
      rw [HG.out]
      exact bodyPost_ret (results_ino_tmp rfl _ _ Nd.free rfl w.heap.size rfl _ hk2 _ Try.underlying42 rfl Try.sizeII) rfl ⟨rfl, HL1.out.trans (below_of_grown hg2 (Nat.le_refl _) HL1.out.size)⟩
  obtain ⟨m, rfl⟩ : ∃ m : Nat, n = m := ⟨n.toNat, by omega⟩
  have hm32 : m < 32 := by omega
  have f1 : (0 : Int) ≤ (m : Int) := by omega
  have f2 : (m : Int) < 32 := by omega
  have z0 := HV1.out.kind hm32
  have HXL : Hid ((l.getD m Nd.free).bl.length = 12) := by
    show _ = _
    rw [List.getD_eq_getElem?_getD, List.getElem?_eq_getElem (by rw [h.f.1]; exact hm32)]
    exact h.f.get hm32
  have hlg : Nd.lget l (m : Int) = if (l.getD m Nd.free).kind = 0 then (Nd.free, 8) else (l.getD m Nd.free, 0) := by unfold Nd.lget; rw [if_neg hn, Int.toNat_natCast]
  obtain ⟨x, hx⟩ : ∃ x, l.getD m Nd.free = x := ⟨_, rfl⟩
  rw [hx] at z0 HXL hlg
  have HX := Lib.hid hx
  clear h hn hx
  by_cases hk : x.kind = 0
  · rw [if_pos hk] at hlg
    have HG := Lib.hid hlg
    have f3 : ((x.kind : Int) == 0) = true := by rw [hk]; rfl
    clear hlg hk
    go_enter Try.func71, Try.ntmps71
    go_upto_region 1 with fail
    rw [← HW1.out]
    go_wp2_with (refine wpList_store_part rfl 42 _ _ rfl w.heap.size 0 14 (ic Nd.free) rfl rfl 42 _ HK1.out rfl (by simp) Try.sizeII (ic_one _) ?_; intro w2 hk2 hg2)
    rw [splice_all _ _ (by rfl)] at hk2
    (try simp only [Exit.inBlock, Exit.then])
    rw [HG.out]
    exact bodyPost_ret (results_ino_tmp rfl _ _ Nd.free rfl w.heap.size rfl _ hk2 _ Try.underlying42 rfl Try.sizeII) rfl ⟨rfl, HL1.out.trans (below_of_grown hg2 (Nat.le_refl _) HL1.out.size)⟩
  · rw [if_neg hk] at hlg
    have HG := Lib.hid hlg
    have f3 : ((x.kind : Int) == 0) = false := by rw [beq_eq_false_iff_ne]; omega
    clear hlg hk
    go_enter Try.func71, Try.ntmps71
    go_upto_region 1 with fail
    rw [← HW1.out]
    go_wp2_with (first
      | (refine wpList_load_vino rfl 42 _ rfl a m _ rfl (by omega) HV1.out hm32 x HX.out _ Try.underlying42 rfl Try.sizeII ?_; unfold iv)
      | (refine wpList_store_part rfl 42 _ _ rfl w.heap.size 0 14 (ic x) rfl rfl 42 _ HK1.out (ic_len HXL.out) (by simp) Try.sizeII (ic_one _) ?_; intro w2 hk2 hg2))
    rw [splice_all _ _ (by rw [ic_len HXL.out]; rfl)] at hk2
    (try simp only [Exit.inBlock, Exit.then])
    rw [HG.out]
    exact bodyPost_ret (results_ino_tmp rfl _ _ x HXL.out w.heap.size rfl _ hk2 _ Try.underlying42 rfl Try.sizeII) rfl ⟨rfl, HL1.out.trans (below_of_grown hg2 (Nat.le_refl _) HL1.out.size)⟩
end Go.Proofs.Ytbklmpekpcneeaa
namespace Nd
theorem takeN_zero (b : List UInt8) : takeN b 0 = ([], b, 0) := by unfold takeN; rw [if_pos (Nat.zero_le _)]; rfl
theorem takeN_len {b : List UInt8} {n : Nat} (hb : b.length = 12) (h : (takeN b n).2.2 = 0) : (takeN b n).2.1.length = 12 := by
  obtain ⟨r, b2, c, e⟩ : ∃ r b2 c, takeN b n = (r, b2, c) := ⟨_, _, _, rfl⟩
  rw [e] at h ⊢
  simp only at h
  subst h
  obtain ⟨-, -, -, rfl⟩ := takeN_ok e
  rw [Ex.length_puts, hb]
/-- A block is made unused; 0 stands for none. -/
def dropB (b : List UInt8) (n : Nat) : List UInt8 := if n = 0 then b else Ex.putB b n false
end Nd
namespace Go.Proofs.Ytbklmpekpcneeaa
open Go.RowKit
set_option maxRecDepth 100000

/-- Between two worlds only block a of the elder ones is written. -/
structure But (a : Nat) (w w' : World) : Prop where
  low : Below a w w'
  rest : ∀ k, k < w.heap.size → k ≠ a → w'.heap[k]? = w.heap[k]?
theorem But.refl (a : Nat) (w : World) : But a w w := ⟨Below.refl _ _, fun _ _ _ => rfl⟩
theorem But.size {a : Nat} {w w' : World} (h : But a w w') : w.heap.size ≤ w'.heap.size := h.low.size
theorem But.trans {a : Nat} {w w' w'' : World} (h : But a w w') (k : But a w' w'') : But a w w'' := ⟨h.low.trans k.low, fun i hi hne => (k.rest i (Nat.lt_of_lt_of_le hi h.size) hne).trans (h.rest i hi hne)⟩
theorem But.of {a : Nat} {w w' : World} (h : Below w.heap.size w w') (ha : a ≤ w.heap.size) : But a w w' := ⟨h.mono ha, fun k hk _ => h.block k hk⟩
theorem But.set {a : Nat} {w w' : World} (h : But a w w') (i : Nat) (u : Value) : But a w (w'.setCell ⟨a, i, none⟩ u) := ⟨h.low.setCell (by simp) _, fun k hk hne => (Below.heap_setCell _ _ _ _ (by simpa using hne)).trans (h.rest k hk hne)⟩
theorem But.grown {a : Nat} {w w' : World} (h : w.grownBy w' (some a)) (ha : a ≤ w.heap.size) : But a w w' := ⟨below_of_grown h (Nat.le_refl _) ha, fun k hk hne => h.block k hk (by simpa using hne)⟩

set_option maxHeartbeats 1600000 in
theorem vtake_w {w : World} {a : Nat} {dv bv : Value} {l : List Nd.Ino} {B : List UInt8} {X : Nat → Prop} (hX : ∀ b, X b → b < w.heap.size) (h : Vw w a dv bv l) (hb : Av X (fun W => Sl eb W bv B) w) (hB : B.length = 12) (n : Nat) (hn : n ≤ 1000) : Calls Try.prog 62 #[.pointer (some ⟨a, 0, none⟩), .int .i64 (n : Int)] w fun e w' =>
    ((Nd.takeN B n).2.2 ≠ 0 ∧ e = .returned (.tuple #[.slice none 0 0, .bool false]) ∧ Below w.heap.size w w') ∨
    ((Nd.takeN B n).2.2 = 0 ∧ ∃ v1 bv', e = .returned (.tuple #[v1, .bool true]) ∧ Av (fun b => b < w.heap.size) (fun W => Sl ei W v1 (Nd.takeN B n).1) w' ∧ Vw w' a dv bv' l ∧ Av X (fun W => Sl eb W bv' (Nd.takeN B n).2.1) w' ∧ But a w w') := by
  have ha := h.k.lt
  have HV := Lib.hid h
  have HB := Lib.hid hb
  obtain ⟨z0, y0⟩ := h.bits
  by_cases h0 : n = 0
  · have HT : Hid (Nd.takeN B n = ([], B, 0)) := by subst h0; exact Nd.takeN_zero B
    have f1 : ((n : Int) == 0) = true := by rw [h0]; rfl
    clear h hb h0 z0 y0
    go_enter Try.func62, Try.ntmps62
    go_wp2_with fail
    go_ret2
    rw [HT.out]
    exact .inr ⟨rfl, _, _, rfl, fun _ _ => Sl.nil _ _, HV.out, HB.out, But.refl _ _⟩
  · have f1 : ((n : Int) == 0) = false := by rw [beq_eq_false_iff_ne]; omega
    have ht := Nd.take_eq hB (n := n) (by omega)
    have hlen := Nd.takeN_len (n := n) hB
    obtain ⟨r, b2, c, e⟩ : ∃ r b2 c, Nd.takeN B n = (r, b2, c) := ⟨_, _, _, rfl⟩
    rw [e] at ht ⊢
    have HTK := Lib.hid (etake_w 18 96 (n : Int) (Av.here hb) (by omega) (by omega) (by omega) ht)
    clear h hb h0 ht hlen e
    by_cases hc : c = 0
    · subst hc
      go_enter Try.func62, Try.ntmps62
      go_wp2_with (go_at_call 84; (with_reducible refine HTK.out.mono ?_); rintro e w1 ⟨v1, v2, rfl, hs1, hs2, hb1⟩; obtain ⟨u2, c2, rfl, -⟩ := id (Av.here hs2); have hv1 := HV.out.below hb1 ha; obtain ⟨z1, y1⟩ := hv1.bits)
      go_ret2
      have ha1 : a < w1.heap.size := Nat.lt_of_lt_of_le ha hb1.size
      right
      refine ⟨?_, _, _, rfl, ?_, hv1.set_bits _, ?_, (But.of hb1 (Nat.le_of_lt ha)).set 449 _⟩
      · first | rfl | simp
      · exact Av.set (p := ⟨a, 449, none⟩) hs1 ha _
      · exact fun W' hW => hs2 W' fun k hk hx => (hW k (by simpa [World.setCell] using hk) (fun h => hx (hX k h))).trans (Below.heap_setCell _ _ _ _ (by have h : ¬ k < w.heap.size := hx; simp; omega))
    · have f2 : (c != 0) = true := by rw [bne_iff_ne]; exact hc
      have HC := Lib.hid hc
      clear hc
      go_enter Try.func62, Try.ntmps62
      go_wp2_with (go_at_call 84; (with_reducible refine HTK.out.mono ?_); rintro e w1 ⟨v1, v2, rfl, hs1, hs2, hb1⟩)
      go_ret2
      exact .inl ⟨HC.out, rfl, hb1⟩

set_option maxHeartbeats 1600000 in
theorem vdrop_w {w : World} {a : Nat} {dv bv : Value} {l : List Nd.Ino} {B : List UInt8} {X : Nat → Prop} (hX : ∀ b, X b → b < w.heap.size) (h : Vw w a dv bv l) (hb : Av X (fun W => Sl eb W bv B) w) (hB : B.length = 12) (n : Nat) (hn : n < 96) : Calls Try.prog 42 #[.pointer (some ⟨a, 0, none⟩), .int .i64 (n : Int)] w fun e w' =>
    e = .returned (.tuple #[]) ∧ ∃ bv', Vw w' a dv bv' l ∧ Av X (fun W => Sl eb W bv' (Nd.dropB B n)) w' ∧ But a w w' := by
  have ha := h.k.lt
  have HV := Lib.hid h
  have HB := Lib.hid hb
  obtain ⟨z0, y0⟩ := h.bits
  by_cases h0 : n = 0
  · have HT : Hid (Nd.dropB B n = B) := if_pos h0
    have f1 : ((n : Int) != 0) = false := by rw [h0]; rfl
    clear h hb h0 z0 y0
    go_enter Try.func42, Try.ntmps42
    go_wp2_with fail
    go_end0
    exact ⟨rfl, _, HV.out, by first | exact HB.out | (rw [HT.out]; exact HB.out), But.refl _ _⟩
  · have f1 : ((n : Int) != 0) = true := by rw [bne_iff_ne]; omega
    have HT : Hid (Nd.dropB B n = Ex.putB B n false) := if_neg h0
    have hst := eset_w (n : Int) false (Av.here hb) (by omega) (by omega)
    rw [show Ex.setR B (n : Int) false = (Ex.putB B n false, 0) by unfold Ex.setR; rw [if_pos (by omega), Int.toNat_natCast]] at hst
    have HST := Lib.hid hst
    clear h hb h0 hst
    go_enter Try.func42, Try.ntmps42
    go_wp2_with (go_at_call 56; (with_reducible refine HST.out.mono ?_); rintro e w1 ⟨v1, rfl, hs1, hb1⟩; obtain ⟨u2, c2, rfl, -⟩ := id (Av.here hs1); have hv1 := HV.out.below hb1 ha; obtain ⟨z1, y1⟩ := hv1.bits)
    have ha1 : a < w1.heap.size := Nat.lt_of_lt_of_le ha hb1.size
    go_end0
    refine ⟨rfl, _, hv1.set_bits _, ?_, (But.of hb1 (Nat.le_of_lt ha)).set 449 _⟩
    rw [HT.out]
    exact fun W' hW => hs1 W' fun k hk hx => (hW k (by simpa [World.setCell] using hk) (fun h => hx (hX k h))).trans (Below.heap_setCell _ _ _ _ (by have h : ¬ k < w.heap.size := hx; simp; omega))
end Go.Proofs.Ytbklmpekpcneeaa
namespace Go.Proofs.Ytbklmpekpcneeaa
open Go.RowKit
set_option maxRecDepth 100000

theorem sizeOf_int (w : World) : (sizeOf 3).run Try.prog w = .ok 1 w := by rfl
theorem run_index_ints (xs : List Nat) (h12 : xs.length = 12) (k : Nat) (hk : k < 12) (w : World) : (Instr.index 40 (.agg (xs.map ei).toArray) (.int .i64 (k : Int))).run Try.prog w = .ok (.int .i64 ((xs.getD k 0 : Nat) : Int)) w := by
  have hn : (0 : Int) ≤ (k : Int) ∧ (k : Int) < 12 := by omega
  have h5 : xs[k]? = some (xs[k]'(by omega)) := List.getElem?_eq_getElem (by omega)
  have h6 : k < 12 := hk
  simp [Instr.index, run_underlying Try.underlying40, asIntOf, h5, h6, ei, part, isAgg, run_underlying Try.underlying3, sizeOf_int w, go_sem]

theorem take_ino (l : List Nd.Ino) (hl : Nd.Full l) (n : Nat) (hn : n < 32) : ((l.flatMap ic).drop (n * 14)).take 14 = ic (l.getD n Nd.free) := by
  have h := vc_part (dv := undef) (bv := undef) hl hn
  unfold vc at h
  rw [show 1 + 14 * n = 14 * n + 1 by omega, List.drop_succ_cons, List.drop_append, List.take_append] at h
  have h2 : ((l.flatMap ic).drop (14 * n)).length = 448 - 14 * n := by rw [List.length_drop, fm_len l hl.2, hl.1]
  have h3 : 14 - ((l.flatMap ic).drop (14 * n)).length = 0 := by omega
  rw [h3, List.take_zero, List.append_nil] at h
  have e2 : l.getD n Nd.free = l[n]'(by rw [hl.1]; exact hn) := by rw [List.getD_eq_getElem?_getD, List.getElem?_eq_getElem (by rw [hl.1]; exact hn)]; rfl
  rw [e2, ← h, Nat.mul_comm n 14]
theorem sizeOf_ino (w : World) : (sizeOf 42).run Try.prog w = .ok 14 w := by rfl
theorem run_index_inos (l : List Nd.Ino) (hl : Nd.Full l) (n : Nat) (hn : n < 32) (w : World) : (Instr.index 83 (.agg (l.flatMap ic).toArray) (.int .i64 (n : Int))).run Try.prog w = .ok (iv (l.getD n Nd.free)) w := by
  have e := take_ino l hl n hn
  unfold iv
  rw [← e]
  have h6 : n < 32 := hn
  have hs := sizeOf_ino w
  simp [Instr.index, run_underlying Try.underlying83, asIntOf, h6, hs, part, go_sem]

section
variable {P : Program} {w : World} {ops : Array Oper} {rest : List Oper} {o : Oper} {ac : Act} {Q : Exit → Act → World → Prop}
theorem wpList_index_by (hgd : o.guard = none) (T : TypeId) (x i : Operand) (ho : o.op = .index T x i) (u j v : Value) (hx : ac.eval x = u) (hj : ac.eval i = j) (hi : ∀ w, (Instr.index T u j).run P w = .ok v w) (h : wpList P ops Q rest (ac.put o.dst v) w) : wpList P ops Q (o :: rest) ac w :=
  wpList_plain hgd fun _ hK => by
    unfold Oper.wp execOp
    simp only [ho, hx, hj, Sem.run_bind, Sem.run_pure, Result.andThen_ok, hi]
    exact hK _ _ h
end
end Go.Proofs.Ytbklmpekpcneeaa
namespace Go.Proofs.Ytbklmpekpcneeaa
open Go.RowKit
section
open _root_.Nd Go.Proofs.Ytbklmpekpcneeaa.Nd
theorem put_nil (xs : List UInt8) (p : Nat) : Jr.put xs p [] = xs := by unfold Jr.put; simp
theorem put_snoc {xs s : List UInt8} {p : Nat} (c : UInt8) (h : p + s.length < xs.length) : (Jr.put xs p s).set (p + s.length) c = Jr.put xs p (s ++ [c]) := by
  have h1 : (s ++ [c]).length = s.length + 1 := by simp
  have hl := put_len (d := xs) (s := s) (p := p) (by omega)
  refine ext_g (by rw [List.length_set, hl, put_len (by rw [h1]; omega)]) fun i _ => ?_
  rw [g_set, hl, g_put (by omega), g_put (by rw [h1]; omega), h1]
  have hg : ∀ j, g (s ++ [c]) j = if j < s.length then g s j else if j = s.length then c else 0 := fun j => by
    unfold g
    rw [List.getD_eq_getElem?_getD, List.getD_eq_getElem?_getD, List.getElem?_append]
    split
    · rfl
    · split
      · rename_i h2; subst h2; simp
      · rw [List.getElem?_eq_none (by simp; omega)]; rfl
  rw [hg]
  by_cases e : p + s.length = i
  · rw [if_pos ⟨e, by omega⟩, if_pos (by omega), if_neg (by omega), if_pos (by omega)]
  · rw [if_neg (fun h => e h.1)]
    by_cases c1 : p ≤ i ∧ i < p + s.length
    · rw [if_pos c1, if_pos (by omega), if_pos (by omega)]
    · rw [if_neg c1, if_neg (by omega)]
/-- Some bytes of an inode are written. -/
def putTo (xs : List UInt8) (p : Nat) (x : Ino) (k : Nat) : List UInt8 := Jr.put xs p (encTo x k)
theorem putTo_len {xs : List UInt8} {p : Nat} {x : Ino} (hx : x.bl.length = 12) (hp : p + 16 ≤ xs.length) {k : Nat} (hk : k ≤ 12) : (putTo xs p x k).length = xs.length := put_len (by rw [encTo_len hx hk]; omega)
theorem putTo_zero {xs : List UInt8} {p : Nat} {x : Ino} (hp : p + 16 ≤ xs.length) : ((xs.set p (UInt8.ofNat x.kind)).set (p + 1) (UInt8.ofNat (x.size / 256))).set (p + 2) (UInt8.ofNat (x.size % 256)) = putTo xs p x 0 := by
  have h1 := put_snoc (xs := xs) (s := []) (p := p) (UInt8.ofNat x.kind) (by simp; omega)
  have h2 := put_snoc (xs := xs) (s := [UInt8.ofNat x.kind]) (p := p) (UInt8.ofNat (x.size / 256)) (by simp; omega)
  have h3 := put_snoc (xs := xs) (s := [UInt8.ofNat x.kind, UInt8.ofNat (x.size / 256)]) (p := p) (UInt8.ofNat (x.size % 256)) (by simp; omega)
  rw [put_nil] at h1
  simp only [List.length_nil, Nat.add_zero, List.nil_append, List.length_cons, Nat.zero_add, List.cons_append] at h1 h2 h3
  rw [h1, h2, h3]
  unfold putTo encTo
  simp
theorem putTo_step {xs : List UInt8} {p : Nat} {x : Ino} (hx : x.bl.length = 12) (hp : p + 16 ≤ xs.length) {k : Nat} (hk : k < 12) : (putTo xs p x k).set (p + (3 + k)) (UInt8.ofNat (bk x k)) = putTo xs p x (k + 1) := by
  unfold putTo
  have h := put_snoc (xs := xs) (s := encTo x k) (p := p) (UInt8.ofNat (bk x k)) (by rw [encTo_len hx (by omega)]; omega)
  rw [encTo_len hx (by omega), encTo_step hx hk] at h
  exact h
theorem putTo_all {xs : List UInt8} {p : Nat} {x : Ino} (hx : x.bl.length = 12) (hp : p + 16 ≤ xs.length) : (putTo xs p x 12).set (p + 15) 0 = Jr.put xs p (enc x) := by
  unfold putTo
  have h := put_snoc (xs := xs) (s := encTo x 12) (p := p) 0 (by rw [encTo_len hx (Nat.le_refl _)]; omega)
  rw [encTo_len hx (Nat.le_refl _), encTo_all hx] at h
  exact h
end
set_option maxRecDepth 100000

set_option maxHeartbeats 4000000 in
theorem vput_w {w : World} {base g n cap : Nat} {xs : List UInt8} (ho : w.ownsRow base 5 1 (.slice (some ⟨g, 0, none⟩) n cap) n (xs.map eb)) (hn : xs.length = n) (p c : Nat) (hp : p + 16 ≤ n) (x : Nd.Ino) (hx : x.bl.length = 12) :
    Calls Try.prog 72 #[.agg (ic x).toArray, .slice (some ⟨g, p, none⟩) 16 c] w fun e w' => e = .returned (.tuple #[]) ∧ w'.ownsRow base 5 1 (.slice (some ⟨g, 0, none⟩) n cap) n ((Jr.put xs p (Nd.enc x)).map eb) ∧ But g w w' := by
  have hgw := (ho.lt g rfl).2
  obtain ⟨W1, hW1⟩ : ∃ W, W = w.alloc (.cells (ic x).toArray 42 (0, 0)) := ⟨_, rfl⟩
  have hb1 : But g w W1 := by rw [hW1]; exact But.of (low_alloc _ _) (Nat.le_of_lt hgw)
  have hk1 : Bk W1 w.heap.size 42 (ic x) := by rw [hW1]; exact Bk.new w _ _
  have ho1 : W1.ownsRow base 5 1 (.slice (some ⟨g, 0, none⟩) n cap) n (xs.map eb) := own_keep ho fun j hj => by
    have e : g = j := by simpa [Value.ownBlock] using hj
    subst e
    rw [hW1]; exact Below.heap_alloc _ _ _ hgw
  have HW1 := Lib.hid hW1
  clear hW1
  have e0 := wrap_u8_nat x.kind
  have e1 := wrap_u8_nat (x.size / 256)
  have e2 := wrap_u8_nat x.size
  rw [show (((x.size / 256 : Nat) : Int)) = (x.size : Int) / 256 by omega] at e1
  have hm : UInt8.ofNat x.size = UInt8.ofNat (x.size % 256) := by
    apply UInt8.toNat_inj.1
    rw [UInt8.toNat_ofNat', UInt8.toNat_ofNat']; omega
  rw [hm] at e2
  have z0 : W1.cell? ⟨w.heap.size, 0, none⟩ = some (.int .i64 (x.kind : Int)) := hk1.cell 0
  have z1 : W1.cell? ⟨w.heap.size, 1, none⟩ = some (.int .i64 (x.size : Int)) := hk1.cell 1
  go_enter Try.func72, Try.ntmps72
  go_upto_region 1 with fail
  rw [← HW1.out]
  have hne : w.heap.size ≠ g := by omega
  obtain ⟨y0, yf0⟩ := own_cell8 (i := p) ho1 (by omega) hn
  obtain ⟨y1, yf1⟩ := own_cell8 (i := p + 1) ho1 (by omega) hn
  obtain ⟨y2, yf2⟩ := own_cell8 (i := p + 2) ho1 (by omega) hn
  have HO2 : Hid ((((W1.setCell ⟨g, p, none⟩ (eb (UInt8.ofNat x.kind))).setCell ⟨g, p + 1, none⟩ (eb (UInt8.ofNat (x.size / 256)))).setCell ⟨g, p + 2, none⟩ (eb (UInt8.ofNat (x.size % 256)))).ownsRow base 5 1 (.slice (some ⟨g, 0, none⟩) n cap) n ((putTo xs p x 0).map eb)) := by
    have h := own_store8 (i := p + 2) (c := UInt8.ofNat (x.size % 256)) (own_store8 (i := p + 1) (c := UInt8.ofNat (x.size / 256)) (own_store8 (i := p) (c := UInt8.ofNat x.kind) ho1))
    rw [putTo_zero (by omega)] at h
    exact h
  have HK2 : Hid (Bk (((W1.setCell ⟨g, p, none⟩ (eb (UInt8.ofNat x.kind))).setCell ⟨g, p + 1, none⟩ (eb (UInt8.ofNat (x.size / 256)))).setCell ⟨g, p + 2, none⟩ (eb (UInt8.ofNat (x.size % 256)))) w.heap.size 42 (ic x)) := ((hk1.far (by simpa using hne) _).far (by simpa using hne) _).far (by simpa using hne) _
  have HB2 : Hid (But g w (((W1.setCell ⟨g, p, none⟩ (eb (UInt8.ofNat x.kind))).setCell ⟨g, p + 1, none⟩ (eb (UInt8.ofNat (x.size / 256)))).setCell ⟨g, p + 2, none⟩ (eb (UInt8.ofNat (x.size % 256))))) := ((hb1.set _ _).set _ _).set _ _
  generalize xs[p] = o0 at *
  generalize xs[p + 1] = o1 at *
  generalize xs[p + 2] = o2 at *
  unfold eb at y0 y1 y2 HO2 HK2 HB2
  clear hm
  generalize UInt8.ofNat x.kind = b0 at e0 HO2 HK2 HB2
  generalize UInt8.ofNat (x.size / 256) = b1 at e1 HO2 HK2 HB2
  generalize UInt8.ofNat (x.size % 256) = b2 at e2 HO2 HK2 HB2
  have z0d : W1.drew.cell? ⟨w.heap.size, 0, none⟩ = some (.int .i64 (x.kind : Int)) := z0
  have z1d : W1.drew.cell? ⟨w.heap.size, 1, none⟩ = some (.int .i64 (x.size : Int)) := z1
  have y0d : W1.drew.cell? ⟨g, p, none⟩ = some (.int .u8 (o0.toNat : Int)) := y0
  have yf0d : W1.drew.frozen? ⟨g, p, none⟩ = false := yf0
  have y1d : W1.drew.cell? ⟨g, p + 1, none⟩ = some (.int .u8 (o1.toNat : Int)) := y1
  have yf1d : W1.drew.frozen? ⟨g, p + 1, none⟩ = false := yf1
  have y2d : W1.drew.cell? ⟨g, p + 2, none⟩ = some (.int .u8 (o2.toNat : Int)) := y2
  have yf2d : W1.drew.frozen? ⟨g, p + 2, none⟩ = false := yf2
  go_region
  obtain ⟨W2, hW2⟩ : ∃ W, W = (((W1.setCell ⟨g, p, none⟩ (.int .u8 (b0.toNat : Int))).setCell ⟨g, p + 1, none⟩ (.int .u8 (b1.toNat : Int))).setCell ⟨g, p + 2, none⟩ (.int .u8 (b2.toNat : Int))).drew := ⟨_, rfl⟩
  rw [← hW2]
  have ho2 : W2.ownsRow base 5 1 (.slice (some ⟨g, 0, none⟩) n cap) n ((putTo xs p x 0).map eb) := by rw [hW2]; exact own_keep HO2.out fun _ _ => rfl
  have hk2 : Bk W2 w.heap.size 42 (ic x) := by rw [hW2]; exact HK2.out.keep rfl
  have hb2 : But g w W2 := by rw [hW2]; exact ⟨HB2.out.low.drew, HB2.out.rest⟩
  have HO := Lib.hid ho2
  have HB := Lib.hid hb2
  have HX := Lib.hid hx
  have HN := Lib.hid hn
  have HS12 : Hid ((Try.prog.info? 40).map (·.size) = some 12) := by show _ = _; kernel_rfl
  have HBL : Hid (((ic x).drop 2).take 12 = x.bl.map ei) := by
    show _ = _
    show (x.bl.map ei).take 12 = _
    rw [List.take_of_length_le (by rw [List.length_map, hx]; exact Nat.le_refl _)]
  clear hW2 ho2 hb2 HO2 HK2 HB2 z0 z1 z0d z1d y0 y1 y2 y0d y1d y2d yf0 yf1 yf2 yf0d yf1d yf2d e0 e1 e2 hb1 hk1 ho1 HW1 ho
  go_upto_region 3 with (refine wpList_load_part rfl 40 _ rfl w.heap.size 2 12 rfl 42 (ic x) hk2 (by rw [ic_len HX.out]; decide) _ Try.underlying40 rfl HS12.out ?_; rw [HBL.out])
  go_wp2_with fail
  go_loopw [4, 5, 24] (fun _ _ i wr => ∃ k : Nat, i = .int .i64 k ∧ k ≤ 12 ∧ wr.ownsRow base 5 1 (.slice (some ⟨g, 0, none⟩) n cap) n ((putTo xs p x k).map eb) ∧ But g w wr) (fun _ _ i _ => 12 - (intOf i).toNat)
  case atStart => exact ⟨0, rfl, by omega, HO.out, HB.out⟩
  case round =>
    clear HO HB hk2
    obtain ⟨k, rfl, hk, ho, hb⟩ := hrel
    have hpl := putTo_len (xs := xs) (p := p) HX.out (by rw [HN.out]; exact hp) hk
    by_cases hlt : k < 12
    · have hst := putTo_step (xs := xs) (p := p) HX.out (by rw [HN.out]; exact hp) hlt
      have hix := run_index_ints x.bl HX.out k hlt
      have eq1 : x.bl.getD k 0 = Nd.bk x k := rfl
      rw [eq1] at hix
      obtain ⟨y0, yf⟩ := own_cell8 (i := p + (3 + k)) ho (by rw [hpl, HN.out]; omega) (by rw [hpl, HN.out])
      have ho3 := own_store8 (i := p + (3 + k)) (c := UInt8.ofNat (Nd.bk x k)) ho
      rw [hst] at ho3
      generalize (putTo xs p x k)[p + (3 + k)] = old at y0
      generalize Nd.bk x k = q at *
      have e0 := wrap_u8_nat q
      generalize UInt8.ofNat q = bq at *
      have e1 : IntKind.i64.wrap (3 + (k : Int)) = ((3 + k : Nat) : Int) := by rw [IntWalk.i64_in _ (by omega)]; omega
      have hb3 : But g w (wr.setCell ⟨g, p + (3 + k), none⟩ (eb bq)) := hb.set _ _
      unfold eb at y0 ho3 hb3
      obtain ⟨t, ht⟩ : ∃ t, 3 + k = t := ⟨_, rfl⟩
      rw [ht] at y0 yf ho3 hb3 e1
      have f5 : (0 : Int) ≤ (k : Int) := by omega
      have f6 : (k : Int) < 12 := by omega
      have f7 : (0 : Int) ≤ (t : Int) := by omega
      have f8 : (t : Int) < 16 := by omega
      have HO3 := Lib.hid ho3
      have HB3 := Lib.hid hb3
      have HIX := Lib.hid hix
      clear ht hst hix eq1 ho ho3 hb hb3 hpl
      go_wp2_with (refine wpList_index_by rfl 40 _ _ rfl _ _ (.int .i64 (q : Int)) rfl rfl HIX.out ?_)
      go_roundw
      case rel => exact ⟨k + 1, by go_num, by omega, HO3.out, HB3.out⟩
      case measure => simp [intOf]; omega
    · have hk12 : k = 12 := by omega
      have f5 : ¬ (k : Int) < 12 := by omega
      rw [hk12] at ho hpl
      have hal := putTo_all (xs := xs) (p := p) HX.out (by rw [HN.out]; exact hp)
      obtain ⟨y0, yf⟩ := own_cell8 (i := p + 15) ho (by rw [hpl, HN.out]; omega) (by rw [hpl, HN.out])
      have ho3 := own_store8 (i := p + 15) (c := 0) ho
      rw [hal] at ho3
      have hb3 : But g w (wr.setCell ⟨g, p + 15, none⟩ (eb 0)) := hb.set _ _
      generalize (putTo xs p x 12)[p + 15] = old at y0
      unfold eb at y0 ho3 hb3
      have HO3 := Lib.hid ho3
      have HB3 := Lib.hid hb3
      clear ho ho3 hb hb3 hal hpl hk12 hk hlt
      go_wp2_with fail
      go_end0
      exact ⟨rfl, HO3.out, HB3.out⟩
end Go.Proofs.Ytbklmpekpcneeaa
namespace Go.Proofs.Ytbklmpekpcneeaa
open Go.RowKit
set_option maxRecDepth 100000

theorem Vw.but {w w' : World} {a g : Nat} {dv bv : Value} {l : List Nd.Ino} (h : Vw w a dv bv l) (hb : But g w w') (hne : a ≠ g) : Vw w' a dv bv l := ⟨h.k.keep (hb.rest a h.k.lt hne), h.f⟩

set_option maxHeartbeats 4000000 in
theorem vdone_w {w : World} {a g cap base : Nat} {bv : Value} {l : List Nd.Ino} {D B : List UInt8} (h : Vw w a (.slice (some ⟨g, 0, none⟩) 12288 cap) bv l) (ho : w.ownsRow base 5 1 (.slice (some ⟨g, 0, none⟩) 12288 cap) 12288 (D.map eb)) (hD : D.length = 12288) (hag : a ≠ g)
    (hb : Av (fun b => b = g) (fun W => Sl eb W bv B) w) (hB : B.length = 12) : Calls Try.prog 44 #[.pointer (some ⟨a, 0, none⟩)] w fun e w' => e = .returned (.slice (some ⟨g, 0, none⟩) 12288 cap) ∧ w'.ownsRow base 5 1 (.slice (some ⟨g, 0, none⟩) 12288 cap) 12288 ((Nd.putB (Nd.doneTo D l 32) B).map eb) ∧ But g w w' := by
  have ha := h.k.lt
  have hgw := (ho.lt g rfl).2
  have hcm := (own_bk' ho).2.2.1
  have hcn := (own_bk' ho).2.1
  have HV := Lib.hid h
  have HF := Lib.hid h.f
  have HO := Lib.hid ho
  have HB := Lib.hid hb
  have HBL := Lib.hid hB
  have HDL := Lib.hid (fun k hk => Nd.doneTo_len (d := D) (l := l) hD h.f.2 k hk)
  have HDS := Lib.hid (fun k => Nd.doneTo_step D l k)
  have HGB := Lib.hid (fun m => Nd.getD_bl (l := l) h.f.2 m)
  have HS448 : Hid ((Try.prog.info? 83).map (·.size) = some 448) := by show _ = _; kernel_rfl
  have HFM : Hid (((vc (.slice (some ⟨g, 0, none⟩) 12288 cap) l bv).drop 1).take 448 = l.flatMap ic) := by
    show _ = _
    unfold vc
    rw [List.drop_succ_cons, List.drop_zero, List.take_append_of_le_length (by rw [fm_len l h.f.2, h.f.1]; decide), List.take_of_length_le (by rw [fm_len l h.f.2, h.f.1]; decide)]
  clear h ho hb hB hD
  go_enter Try.func44, Try.ntmps44
  go_upto_region 2 with (refine wpList_load_part rfl 83 _ rfl a 1 448 rfl 85 _ HV.out.k (by rw [vc_len HV.out.f]; decide) _ Try.underlying83 rfl HS448.out ?_; rw [HFM.out])
  go_wp2_with fail
  go_loopw [3, 4, 9] (fun _ _ i wr => ∃ k : Nat, i = .int .i64 k ∧ k ≤ 32 ∧ wr.ownsRow base 5 1 (.slice (some ⟨g, 0, none⟩) 12288 cap) 12288 ((Nd.doneTo D l k).map eb) ∧ But g w wr) (fun _ _ i _ => 32 - (intOf i).toNat)
  case atStart => exact ⟨0, rfl, by omega, HO.out, But.refl _ _⟩
  case round =>
    obtain ⟨k, rfl, hk, ho, hbt⟩ := hrel
    by_cases hlt : k < 32
    · have hix := run_index_inos l HF.out k hlt
      have hyl := HGB.out k
      have hds := HDS.out k
      have hdl := HDL.out k hk
      have hgr := (ho.lt g rfl).2
      generalize l.getD k Nd.free = y at *
      have HYL := Lib.hid hyl
      have HIX := Lib.hid hix
      have HOK := Lib.hid ho
      have HBT := Lib.hid hbt
      have f5 : (0 : Int) ≤ (k : Int) := by omega
      have f6 : (k : Int) < 32 := by omega
      unfold iv at HIX
      clear hix hyl ho hbt
      go_upto_region 4 with (first
        | (refine wpList_index_by rfl 83 _ _ rfl _ _ (.agg (ic y).toArray) rfl rfl HIX.out ?_)
        | (refine wpList_store_part rfl 42 _ _ rfl wr.heap.size 0 14 (ic y) rfl rfl 42 [.int .i64 0, .int .i64 0, .int .i64 0, .int .i64 0, .int .i64 0, .int .i64 0, .int .i64 0, .int .i64 0, .int .i64 0, .int .i64 0, .int .i64 0, .int .i64 0, .int .i64 0, .int .i64 0] (Bk.new wr _ [.int .i64 0, .int .i64 0, .int .i64 0, .int .i64 0, .int .i64 0, .int .i64 0, .int .i64 0, .int .i64 0, .int .i64 0, .int .i64 0, .int .i64 0, .int .i64 0, .int .i64 0, .int .i64 0]) (ic_len HYL.out) (by simp) Try.sizeII (ic_one _) ?_; intro w3 hk3 hg3))
      rw [splice_all _ _ (by rw [ic_len HYL.out]; rfl)] at hk3
      have hlo : Below wr.heap.size wr w3 := (low_alloc wr _).trans (below_of_grown hg3 (Nat.le_refl _) (low_alloc wr _).size)
      have hb3 : But g w w3 := HBT.out.trans (But.of hlo (Nat.le_of_lt hgr))
      have ho3 := own_keep HOK.out (fun j hj => hlo.block j (by have e : g = j := (by simpa [Value.ownBlock] using hj); omega))
      obtain ⟨bx, hbx⟩ : ∃ y, y = wr.heap.size := ⟨_, rfl⟩
      rw [← hbx] at hk3 ⊢
      have hbg : bx ≠ g := by omega
      obtain ⟨w4, hw4⟩ : ∃ W, W = w3.drew := ⟨_, rfl⟩
      have hk4 : Bk w3.drew bx 42 (ic y) := hk3.keep rfl
      have ho4 : w3.drew.ownsRow base 5 1 (.slice (some ⟨g, 0, none⟩) 12288 cap) 12288 ((Nd.doneTo D l k).map eb) := own_keep ho3 fun _ _ => rfl
      have hb4 : But g w w3.drew := ⟨hb3.low.drew, hb3.rest⟩
      have HS4 : Hid (w3.drew.rangeAt bx 0 (ic y)) := hk4.range
      have HS5 : Hid (∀ W, But g w3.drew W → W.rangeAt bx 0 (ic y)) := fun W hW => (hk4.keep (hW.rest bx hk4.lt hbg)).range
      have hv4 := HV.out.but hb4 hag
      have hpl := vplace_w g a 0 cap k hlt hcn hcm hv4.disk
      rw [Nat.zero_add] at hpl
      have HPL := Lib.hid hpl
      have HPT := Lib.hid (vput_w ho4 hdl (Nd.at_ k) (cap - Nd.at_ k) (by unfold Nd.at_; omega) y HYL.out)
      have HB4 := Lib.hid hb4
      have HDS2 : Hid (Jr.put (Nd.doneTo D l k) (Nd.at_ k) (Nd.enc y) = Nd.doneTo D l (k + 1)) := by show _ = _; rw [hds]; rfl
      clear hw4 hk3 hg3 hlo hb3 ho3 hk4 ho4 hb4 hv4 hds hdl hbx hpl
      refine wp_region_noPanic ?_
      refine wp_region_held_drew (S := fun w' => w'.rangeAt bx 0 (ic y)) (by kernel_rfl) HS4.out (fun _ => ?_)
      refine wpAnyH_take (i := 0) (oi := ⟨some 13, _, _, _, _, _⟩) (v := .agg (ic y).toArray) rfl (by kernel_rfl) (by kernel_rfl) (by kernel_rfl) (fun _ _ _ h => h) (yieldsIf_load_mid (by rfl) 42 _ rfl bx 0 rfl (ic y) _ (fun _ h => h) Try.underlying42 rfl (by rw [ic_len HYL.out]; exact Try.sizeII)) HS4.out ?re0
      (try simp only [Act.put, List.setIfInBounds_toArray, List.set_cons_zero, List.set_cons_succ])
      refine wpAnyH_take (i := 1) (oi := ⟨some 14, _, _, _, _, _⟩) (v := ?_) rfl (by kernel_rfl) (by kernel_rfl) (by kernel_rfl) (fun _ _ _ h => h) (Or.inl ⟨by rfl, ?hya1⟩) HS4.out ?rea1
      case hya1 => ((intro w hSw; (try dsimp only at hSw); go_simp); first | done | with_reducible rfl)
      (try simp only [Act.put, List.setIfInBounds_toArray, List.set_cons_zero, List.set_cons_succ])
      refine wpAnyH_take (i := 2) (oi := ⟨some 15, _, _, _, _, _⟩) (v := ?_) rfl (by kernel_rfl) (by kernel_rfl) (by kernel_rfl) (fun _ _ _ h => h) (Or.inl ⟨by rfl, ?hya2⟩) HS4.out ?rea2
      case hya2 => ((intro w hSw; (try dsimp only at hSw); go_simp); first | done | with_reducible rfl)
      (try simp only [Act.put, List.setIfInBounds_toArray, List.set_cons_zero, List.set_cons_succ])
      refine wpAnyH_ready (rs := [3]) (by kernel_rfl) (by simp) ?_
      refine AllReadyH.cons rfl (fun K hK => ?_) AllReadyH.nil
      go_simp
      go_wp2_with (go_at_call 73; (with_reducible refine HPL.out.mono ?_); rintro e w' ⟨rfl, rfl⟩)
      refine hK.out _ _ (HS4.out) (fun _ => ?_)
      clear hK K
      (try simp only [Act.put, List.setIfInBounds_toArray, List.set_cons_zero, List.set_cons_succ])
      refine wpAnyH_ready (rs := [4]) (by kernel_rfl) (by simp) ?_
      refine AllReadyH.cons rfl (fun K hK => ?_) AllReadyH.nil
      go_simp
      go_wp2_with (go_at_call 72; (with_reducible refine HPT.out.mono ?_); rintro e w5 ⟨rfl, ho5, hb5⟩)
      refine hK.out _ _ (HS5.out w5 hb5) (fun _ => ?_)
      clear hK K
      (try simp only [Act.put, List.setIfInBounds_toArray, List.set_cons_zero, List.set_cons_succ])
      refine wpAnyH_done (by kernel_rfl) ?_ _
      refine NoPanic.normal ?_
      go_wp2_with fail
      go_roundw
      case rel => exact ⟨k + 1, by go_num, by omega, by rw [HDS2.out] at ho5; exact ho5, HB4.out.trans hb5⟩
      case measure => simp [intOf]; omega
    · have hk32 : k = 32 := by omega
      have f5 : ¬ (k : Int) < 32 := by omega
      rw [hk32] at ho
      have hv := HV.out.but hbt hag
      have hsl : Sl eb wr bv B := HB.out wr fun j hj hne => hbt.rest j hj hne
      have hdl := HDL.out 32 (Nat.le_refl _)
      obtain ⟨ub, cb, rfl, -⟩ := id hsl
      have hgr := (ho.lt g rfl).2
      obtain ⟨z9, -⟩ := hv.bits
      have z9d : wr.drew.cell? ⟨a, 449, none⟩ = some (.slice ub B.length cb) := z9
      have z0d : wr.drew.cell? ⟨a, 0, none⟩ = some (.slice (some ⟨g, 0, none⟩) 12288 cap) := hv.disk
      have hbl := vblock_w g a 0 cap 13 (by decide) hcn hcm z0d
      have HBK : Hid (Calls Try.prog 43 #[.pointer (some ⟨a, 0, none⟩), .int .i64 13] wr.drew fun e w' => e = .returned (.slice (some ⟨g, 1664, none⟩) 128 (cap - 1664)) ∧ wr.drew = w') := by
        rw [Nat.zero_add] at hbl
        exact hbl
      have HOD : Hid (wr.drew.ownsRow base 5 1 (.slice (some ⟨g, 0, none⟩) 12288 cap) 12288 ((Nd.doneTo D l 32).map eb)) := own_keep ho fun _ _ => rfl
      have HSD : Hid (Sl eb wr.drew (.slice ub B.length cb) B) := hsl.below (low_drew wr) (Nat.le_refl _)
      have hszu : (Try.prog.info? 5).map (·.size) = some 1 := by kernel_rfl
      have HT : Hid (B.take 128 = B) := List.take_of_length_le (by rw [HBL.out]; decide)
      have HBD : Hid (But g w wr.drew) := ⟨hbt.low.drew, hbt.rest⟩
      have halt : a < wr.heap.size := hv.k.lt
      have HY6 : Hid (∀ W : World, wr.drew.grownBy W (some g) → W.cell? ⟨a, 449, none⟩ = some (.slice ub B.length cb) ∧ W.cell? ⟨a, 0, none⟩ = some (.slice (some ⟨g, 0, none⟩) 12288 cap)) := fun W hg => ⟨(cell_far8 hg hag 449 halt).trans z9d, (cell_far8 hg hag 0 halt).trans z0d⟩
      clear hk32 hv hsl hdl z9 hbl ho hbt hk hlt
      go_upto_region 6 with fail
      go_region_held3 (fun w' => w'.cell? ⟨a, 449, none⟩ = some (.slice ub B.length cb) ∧ w'.cell? ⟨a, 0, none⟩ = some (.slice (some ⟨g, 0, none⟩) 12288 cap)) (first | exact ⟨by with_reducible assumption, by with_reducible assumption⟩ | go_keep) ((first
        | (go_at_call 43; (with_reducible refine HBK.out.mono ?_); rintro e w' ⟨rfl, rfl⟩)
        | (refine step_copy_own8 rfl (.tmp 20) (.tmp 24) 25 25 rfl 5 Try.underlying25 hszu base g 12288 cap (Nd.doneTo D l 32) HOD.out 1664 128 (cap - 1664) rfl (by omega) (.slice ub B.length cb) B rfl HSD.out ?_; intro w6 ho6 hg6; obtain ⟨y6, y7⟩ := HY6.out _ hg6)))
      all_goals
        go_wp2_with fail
        go_ret
        rw [HT.out] at ho6
        exact ⟨rfl, ho6, HBD.out.trans (But.grown hg6 (Nat.le_of_lt hgr))⟩
end Go.Proofs.Ytbklmpekpcneeaa
namespace Go.Proofs.Ytbklmpekpcneeaa
open Go.RowKit
set_option maxRecDepth 100000

set_option maxHeartbeats 8000000 in
theorem vproper_w {w : World} {a g cap mb n : Nat} {bv : Value} {l : List Nd.Ino} {d : List UInt8} {L : List Nat} (h : Vw w a (.slice (some ⟨g, 0, none⟩) 12288 cap) bv l) (hs : Av (fun b => b = mb) (fun W => Sl eb W (.slice (some ⟨g, 0, none⟩) 12288 cap) d) w) (hcn : 12288 ≤ cap) (hcm : cap ≤ maxLen) (hd : d.length = 12288) (ha : a ≠ mb) (hm : Mb Try.prog 3 4 w mb n (Nd.mt L)) (hn : n ≤ 1000) (hL : L.Nodup) (x : Nd.Ino) (hx : Nd.Enc x) :
    Calls Try.prog 76 #[.pointer (some ⟨a, 0, none⟩), .agg (ic x).toArray, .map (some mb)] w fun e w' => e = .returned (.bool (Nd.pr d x L)) ∧ (Nd.pr d x L = true → Mb Try.prog 3 4 w' mb (n + 12) (Nd.mt (L ++ Nd.used [x]))) ∧ But mb w w' := by
  have hxl := hx.n
  have HXL := Lib.hid hxl
  have HXB := Lib.hid hx.b
  have hmw := hm.lt
  obtain ⟨W1, hW1⟩ : ∃ W, W = w.alloc (.cells (ic x).toArray 42 (0, 0)) := ⟨_, rfl⟩
  have hl1 : Below w.heap.size w W1 := by rw [hW1]; exact low_alloc _ _
  have hb1 : But mb w W1 := But.of hl1 (Nat.le_of_lt hmw)
  have hk1 : Bk W1 w.heap.size 42 (ic x) := by rw [hW1]; exact Bk.new w _ _
  have HW1 := Lib.hid hW1
  have HB1 := Lib.hid hb1
  have HK1 := Lib.hid hk1
  have HM1 := Lib.hid (hm.below hl1 hmw)
  have HKD := Lib.hid (fun h => Nd.pr_kind (d := d) (x := x) (L := L) h)
  have HSZ := Lib.hid (fun h => Nd.pr_size (d := d) (x := x) (L := L) h)
  have HSL := Lib.hid (fun i hi h => Nd.pr_slot (d := d) (x := x) (L := L) (i := i) hi h)
  have HTW := Lib.hid (fun i hi h0 h => Nd.pr_twice (d := d) (x := x) (L := L) hxl (i := i) hi h0 h)
  have HEN := Lib.hid (fun hk hs hsl hn => Nd.pr_end (d := d) (x := x) (L := L) hxl hk hs hsl hn)
  have HND := Lib.hid (fun i hi h hm => Nd.sx_nodup (x := x) (L := L) hxl (i := i) hi h hm)
  have HSM := Lib.hid (fun k hk h0 y => Nd.sx_mem L (x := x) hxl (k := k) hk h0 y)
  have HSS := Lib.hid (fun k hk => Nd.sx_step L (x := x) hxl (k := k) hk)
  have HSA := Lib.hid (Nd.sx_all L hxl)
  have z0 : W1.cell? ⟨w.heap.size, 0, none⟩ = some (.int .i64 (x.kind : Int)) := hk1.cell 0
  have z1 : W1.cell? ⟨w.heap.size, 1, none⟩ = some (.int .i64 (x.size : Int)) := hk1.cell 1
  have HV := Lib.hid h
  have HS := Lib.hid hs
  have HLN := Lib.hid hL
  clear hW1 hl1 hb1 hk1 hm h hs hL hx
  by_cases hk : x.kind = 1 ∨ x.kind = 2
  rotate_left
  · have HR := Lib.hid (HKD.out hk)
    have f1 : ((x.kind : Int) != 1) = true := by rw [bne_iff_ne]; omega
    have f2 : ((x.kind : Int) != 2) = true := by rw [bne_iff_ne]; omega
    clear hk
    go_enter Try.func76, Try.ntmps76
    go_upto_region 1 with fail
    rw [← HW1.out]
    go_wp2_with fail
    go_ret
    rw [HR.out]
    exact ⟨rfl, fun h => by simp at h, HB1.out⟩
  have hkk : ((x.kind : Int) != 1) = decide (x.kind = 2) ∧ ((x.kind : Int) != 2) = decide (x.kind = 1) := by
    rcases hk with e | e <;> rw [e] <;> exact ⟨rfl, rfl⟩
  by_cases hz : 1536 < x.size
  · have HR := Lib.hid (HSZ.out hz)
    have f3 : (1536 : Int) < (x.size : Int) := by omega
    clear hkk hz
    rcases hk with hk | hk
    · skip
      have f1 : ((x.kind : Int) != 1) = false := by rw [hk]; rfl
      have f2 : ((x.kind : Int) != 2) = true := by rw [hk]; rfl
      clear hk
      go_enter Try.func76, Try.ntmps76
      go_upto_region 1 with fail
      rw [← HW1.out]
      go_wp2_with fail
      go_ret
      rw [HR.out]
      exact ⟨rfl, fun h => by simp at h, HB1.out⟩
    · skip
      have f1 : ((x.kind : Int) != 1) = true := by rw [hk]; rfl
      have f2 : ((x.kind : Int) != 2) = false := by rw [hk]; rfl
      clear hk
      go_enter Try.func76, Try.ntmps76
      go_upto_region 1 with fail
      rw [← HW1.out]
      go_wp2_with fail
      go_ret
      rw [HR.out]
      exact ⟨rfl, fun h => by simp at h, HB1.out⟩
  have f3 : ¬ (1536 : Int) < (x.size : Int) := by omega
  have HSZ2 : Hid (x.size ≤ 1536) := by show _ ≤ _; omega
  have HS12 : Hid ((Try.prog.info? 40).map (·.size) = some 12) := by show _ = _; kernel_rfl
  have HBL : Hid (((ic x).drop 2).take 12 = x.bl.map ei) := by
    show _ = _
    show (x.bl.map ei).take 12 = _
    rw [List.take_of_length_le (by rw [List.length_map, hxl]; exact Nat.le_refl _)]
  clear hkk hz hxl
  rcases hk with hk | hk
  · skip
    have f1 : ((x.kind : Int) != 1) = false := by rw [hk]; rfl
    have f2 : ((x.kind : Int) != 2) = true := by rw [hk]; rfl
    have HKK := Lib.hid hk
    clear hk
    go_enter Try.func76, Try.ntmps76
    go_upto_region 1 with fail
    rw [← HW1.out]
    go_upto_region 4 with (refine wpList_load_part rfl 40 _ rfl w.heap.size 2 12 rfl 42 (ic x) HK1.out (by rw [ic_len HXL.out]; decide) _ Try.underlying40 rfl HS12.out ?_; rw [HBL.out])
    clear z0 z1
    go_wp2_with fail
    go_loopw [7, 8, 9, 25] (fun _ _ _ i wr => ∃ k : Nat, i = .int .i64 k ∧ k ≤ 12 ∧ Mb Try.prog 3 4 wr mb (n + k) (Nd.mt (Nd.sx L x k)) ∧ Hid ((Nd.sx L x k).Nodup) ∧ Hid (∀ j, j < k → Nd.slot d x j) ∧ Bk wr w.heap.size 42 (ic x) ∧ But mb w wr) (fun _ _ _ i _ => 12 - (intOf i).toNat)
    case atStart => exact ⟨0, rfl, by omega, by rw [Nd.sx_zero]; exact HM1.out, (by rw [Nd.sx_zero]; exact HLN.out : (Nd.sx L x 0).Nodup), fun j h => absurd h (Nat.not_lt_zero _), HK1.out, HB1.out⟩
    case round =>
      clear HM1
      obtain ⟨k, rfl, hk, hmb, HN, HJ, hkb, hbt⟩ := hrel
      by_cases hlt : k < 12
      · have hix := run_index_ints x.bl HXL.out k hlt
        have eq1 : x.bl.getD k 0 = Nd.bk x k := rfl
        rw [eq1] at hix
        have z1 : wr.cell? ⟨w.heap.size, 1, none⟩ = some (.int .i64 (x.size : Int)) := hkb.cell 1
        have hq256 := HXB.out k
        have hnd := HND.out k hlt HN.out
        have hsm := HSM.out k hlt
        have hss := HSS.out k hlt
        have htw := HTW.out k hlt
        have hsl := HSL.out k hlt
        have hno := fun h0 h => Nd.slot_no (d := d) (x := x) (i := k) h0 h
        have hfu := fun h he => Nd.slot_full (d := d) (x := x) (i := k) h he
        have hta := fun h he => Nd.slot_tail (d := d) (x := x) hd (i := k) h he
        have hz0 : Nd.bk x k = 0 → Nd.slot d x k := fun h => .inl h
        have HJX : Hid (Nd.slot d x k → ∀ j, j < k + 1 → Nd.slot d x j) := fun h j hj => by
          by_cases e : j = k
          · subst e; exact h
          · exact HJ.out j (by omega)
        have hlk : ∀ q : Nat, q < 256 → (Instr.lookup 104 (.map (some mb)) (.int .i64 (q : Int)) false).run Try.prog wr = .ok (.bool (Nd.mt (Nd.sx L x k) (q : Int))) wr := fun q hq => hmb.look Try.underlying3 Try.underlying104 Try.underlying4 (Try.zeroBool wr) (WalkArith.wf_i64 (by omega))
        generalize Nd.bk x k = q at *
        have HIX := Lib.hid hix
        have HMB := Lib.hid hmb
        have HK := Lib.hid hkb
        have HB := Lib.hid hbt
        have f5 : (0 : Int) ≤ (k : Int) := by omega
        have f6 : (k : Int) < 12 := by omega
        clear hix eq1 hmb hkb hbt
        by_cases hq : q = 0
        · have HN2 := Lib.hid (hnd fun h => absurd hq h)
          have HJ2 := Lib.hid (HJX.out (hz0 hq))
          rw [if_pos hq] at hss
          have HSS2 := Lib.hid hss
          have f7 : ((q : Int) == 0) = true := by rw [hq]; rfl
          clear hq hnd hsm hss htw hsl hno hfu hta hz0 hlk hq256
          go_wp2_with (refine wpList_index_by rfl 40 _ _ rfl _ _ (.int .i64 (q : Int)) rfl rfl HIX.out ?_)
          go_roundw
          case rel => exact ⟨k + 1, by go_num, by omega, by rw [HSS2.out]; exact HMB.out.mono (by omega), HN2, HJ2, HK.out, HB.out⟩
          case measure => simp [intOf]; omega
        · have f7 : ((q : Int) == 0) = false := by rw [beq_eq_false_iff_ne]; omega
          have HPA := Lib.hid (vparts_w x.size (by have := HSZ2.out; omega))
          obtain ⟨pt, hpt⟩ : ∃ y, (x.size + 127) / 128 = y := ⟨_, rfl⟩
          rw [hpt] at HPA
          have hbm : w.heap.size ≠ mb := by omega
          have hmle : mb ≤ wr.heap.size := by have := HB.out.size; omega
          by_cases hin : 128 * k < x.size
          rotate_left
          · have HR := Lib.hid (hsl (hno hq fun h => hin h.2.2))
            have f8 : (pt : Int) ≤ (k : Int) := by omega
            clear hq hnd hsm hss htw hsl hno hfu hta hz0 hlk hq256 hpt hin
            go_wp2_with (first
              | (refine wpList_index_by rfl 40 _ _ rfl _ _ (.int .i64 (q : Int)) rfl rfl HIX.out ?_)
              | (go_at_call 41; (with_reducible refine (HPA.out _).mono ?_); rintro e w' ⟨rfl, rfl⟩))
            go_ret
            rw [HR.out]
            exact ⟨rfl, fun h => by simp at h, HB.out⟩
          have f8 : ¬ (pt : Int) ≤ (k : Int) := by omega
          by_cases h18 : q < 18
          · have HR := Lib.hid (hsl (hno hq fun h => by omega))
            have f9 : (q : Int) < 18 := by omega
            clear hq hnd hsm hss htw hsl hno hfu hta hz0 hlk hq256 hpt hin h18
            go_wp2_with (first
              | (refine wpList_index_by rfl 40 _ _ rfl _ _ (.int .i64 (q : Int)) rfl rfl HIX.out ?_)
              | (go_at_call 41; (with_reducible refine (HPA.out _).mono ?_); rintro e w' ⟨rfl, rfl⟩))
            go_ret
            rw [HR.out]
            exact ⟨rfl, fun h => by simp at h, HB.out⟩
          have f9 : ¬ (q : Int) < 18 := by omega
          by_cases h96 : 96 ≤ q
          · have HR := Lib.hid (hsl (hno hq fun h => by omega))
            have f10 : (96 : Int) ≤ (q : Int) := by omega
            clear hq hnd hsm hss htw hsl hno hfu hta hz0 hlk hq256 hpt hin h18 h96
            go_wp2_with (first
              | (refine wpList_index_by rfl 40 _ _ rfl _ _ (.int .i64 (q : Int)) rfl rfl HIX.out ?_)
              | (go_at_call 41; (with_reducible refine (HPA.out _).mono ?_); rintro e w' ⟨rfl, rfl⟩))
            go_ret
            rw [HR.out]
            exact ⟨rfl, fun h => by simp at h, HB.out⟩
          have f10 : ¬ (96 : Int) ≤ (q : Int) := by omega
          have hlq := hlk q hq256
          rw [Nd.mt_nat] at hlq
          by_cases hmem : q ∈ Nd.sx L x k
          · have HR := Lib.hid (htw hq hmem)
            rw [decide_eq_true hmem] at hlq
            clear hq hnd hsm hss htw hsl hno hfu hta hz0 hlk hq256 hpt hin h18 h96 hmem
            go_wp2_with (first
              | (refine wpList_index_by rfl 40 _ _ rfl _ _ (.int .i64 (q : Int)) rfl rfl HIX.out ?_)
              | (go_at_call 41; (with_reducible refine (HPA.out _).mono ?_); rintro e w' ⟨rfl, rfl⟩))
            go_ret
            rw [HR.out]
            exact ⟨rfl, fun h => by simp at h, HB.out⟩
          rw [decide_eq_false hmem] at hlq
          have HN2 := Lib.hid (hnd fun _ => hmem)
          have HSM2 := Lib.hid (hsm hq)
          have g1 : IntKind.i64.wrap ((k : Int) * 128) = (k : Int) * 128 := IntWalk.i64_in _ (by omega)
          have g2 : IntKind.i64.wrap ((x.size : Int) - (k : Int) * 128) = (x.size : Int) - (k : Int) * 128 := IntWalk.i64_in _ (by have := HSZ2.out; omega)
          have hrg : 18 ≤ q ∧ q < 96 ∧ 128 * k < x.size := ⟨by omega, by omega, hin⟩
          by_cases he : x.size < 128 * k + 128
          rotate_left
          · have HJ2 := Lib.hid (HJX.out (hfu hrg (by omega)))
            have g3 : ¬ (x.size : Int) - (k : Int) * 128 < 128 := by omega
            clear hq hnd hsm hss htw hsl hno hfu hta hz0 hlk hq256 hpt hin h18 h96 hmem he
            · skip
              go_wp2_with (first
                | (refine wpList_index_by rfl 40 _ _ rfl _ _ (.int .i64 (q : Int)) rfl rfl HIX.out ?_)
                | (go_at_call 41; (with_reducible refine (HPA.out _).mono ?_); rintro e w' ⟨rfl, rfl⟩)
                | (at_mapUpdate; refine wpList_update_mb rfl _ _ _ 104 rfl 3 4 Try.underlying3 Try.underlying104 Try.underlying4 mb (n + k) (Nd.mt (Nd.sx L x k)) rfl HMB.out (by unfold maxLen; omega) (q : Int) rfl (WalkArith.wf_i64 (by omega)) true rfl ?_; intro w3 hmb3 hg3; have z3 := (cell_far8 hg3 hbm 1 HK.out.lt).trans z1))
              have hb3 := HB.out.trans (But.grown hg3 hmle)
              go_roundw
              case rel => exact ⟨k + 1, by go_num, by omega, hmb3.as fun y _ => HSM2.out y, HN2, HJ2, HK.out.keep (hg3.block _ HK.out.lt (by simpa using hbm)), hb3⟩
              case measure => simp [intOf]; omega
          obtain ⟨en, hes⟩ : ∃ y, x.size - 128 * k = y := ⟨_, rfl⟩
          have g2' : IntKind.i64.wrap ((x.size : Int) - (k : Int) * 128) = (en : Int) := by rw [g2]; omega
          have g3 : (0 : Int) ≤ (en : Int) := by omega
          have g4 : (en : Int) < 128 := by omega
          have g5 : (en : Int) ≤ 128 := by omega
          have hsz := hta hrg he
          rw [hes] at hsz
          have HBLK : Hid (∀ W : World, W.cell? ⟨a, 0, none⟩ = some (.slice (some ⟨g, 0, none⟩) 12288 cap) → Calls Try.prog 43 #[.pointer (some ⟨a, 0, none⟩), .int .i64 (q : Int)] W fun e w' => e = .returned (.slice (some ⟨g, q * 128, none⟩) 128 (cap - q * 128)) ∧ W = w') := fun W hz => by
            have h := vblock_w g a 0 cap q hrg.2.1 hcn hcm hz
            rw [Nat.zero_add] at h
            exact h
          have HZR : Hid (∀ W : World, But mb w W → Calls Try.prog 74 #[.slice (some ⟨g, q * 128 + en, none⟩) (128 - en) (cap - q * 128 - en)] W fun e w' => e = .returned (.bool (Nd.zs ((d.drop (q * 128 + en)).take (128 - en)))) ∧ W = w') := fun W hW => by
            have h1 := (HS.out W fun b hb hne => hW.rest b hb hne).cut (q * 128 + en) (128 - en) (by omega)
            rw [Nat.zero_add, ← Nat.sub_sub] at h1
            exact vzero_w h1 (by rw [List.length_take]; omega)
          generalize Nd.zs ((d.drop (q * 128 + en)).take (128 - en)) = zz at *
          have f11 : ¬ cap - q * 128 < en := by unfold maxLen at hcm; omega
          cases zz with
          | false =>
            have HR := Lib.hid (hsl fun h => by rw [hsz] at h; simp at h)
            clear hq hnd hsm hss htw hsl hno hfu hta hz0 hlk hq256 hpt hin h18 h96 hmem he hes g2 hsz hrg
            go_wp2_with (first
              | (refine wpList_index_by rfl 40 _ _ rfl _ _ (.int .i64 (q : Int)) rfl rfl HIX.out ?_)
              | (go_at_call 41; (with_reducible refine (HPA.out _).mono ?_); rintro e w' ⟨rfl, rfl⟩)
              | (at_mapUpdate; refine wpList_update_mb rfl _ _ _ 104 rfl 3 4 Try.underlying3 Try.underlying104 Try.underlying4 mb (n + k) (Nd.mt (Nd.sx L x k)) rfl HMB.out (by unfold maxLen; omega) (q : Int) rfl (WalkArith.wf_i64 (by omega)) true rfl ?_; intro w3 hmb3 hg3; have z3 := (cell_far8 hg3 hbm 1 HK.out.lt).trans z1; have hb3 := HB.out.trans (But.grown hg3 hmle); have hv3 := HV.out.but hb3 ha)
              | (go_at_call 43; (with_reducible refine (HBLK.out _ hv3.disk).mono ?_); rintro e w' ⟨rfl, rfl⟩)
              | (go_at_call 74; (with_reducible refine (HZR.out _ hb3).mono ?_); rintro e w' ⟨rfl, rfl⟩))
            go_ret
            rw [HR.out]
            exact ⟨rfl, fun h => by simp at h, hb3⟩
          | true =>
            have HJ2 := Lib.hid (HJX.out (hsz.2 rfl))
            clear hq hnd hsm hss htw hsl hno hfu hta hz0 hlk hq256 hpt hin h18 h96 hmem he hes g2 hsz hrg
            go_wp2_with (first
              | (refine wpList_index_by rfl 40 _ _ rfl _ _ (.int .i64 (q : Int)) rfl rfl HIX.out ?_)
              | (go_at_call 41; (with_reducible refine (HPA.out _).mono ?_); rintro e w' ⟨rfl, rfl⟩)
              | (at_mapUpdate; refine wpList_update_mb rfl _ _ _ 104 rfl 3 4 Try.underlying3 Try.underlying104 Try.underlying4 mb (n + k) (Nd.mt (Nd.sx L x k)) rfl HMB.out (by unfold maxLen; omega) (q : Int) rfl (WalkArith.wf_i64 (by omega)) true rfl ?_; intro w3 hmb3 hg3; have z3 := (cell_far8 hg3 hbm 1 HK.out.lt).trans z1; have hb3 := HB.out.trans (But.grown hg3 hmle); have hv3 := HV.out.but hb3 ha)
              | (go_at_call 43; (with_reducible refine (HBLK.out _ hv3.disk).mono ?_); rintro e w' ⟨rfl, rfl⟩)
              | (go_at_call 74; (with_reducible refine (HZR.out _ hb3).mono ?_); rintro e w' ⟨rfl, rfl⟩))
            go_roundw
            case rel => exact ⟨k + 1, by go_num, by omega, hmb3.as fun y _ => HSM2.out y, HN2, HJ2, HK.out.keep (hg3.block _ HK.out.lt (by simpa using hbm)), hb3⟩
            case measure => simp [intOf]; omega
      · have hk12 : k = 12 := by omega
        have f5 : ¬ (k : Int) < 12 := by omega
        rw [hk12] at hmb HN HJ
        rw [HSA.out] at hmb
        have z0 : wr.cell? ⟨w.heap.size, 0, none⟩ = some (.int .i64 (x.kind : Int)) := hkb.cell 0
        have z1 : wr.cell? ⟨w.heap.size, 1, none⟩ = some (.int .i64 (x.size : Int)) := hkb.cell 1
        have z2 : wr.cell? ⟨w.heap.size, 2, none⟩ = some (.int .i64 ((Nd.bk x 0 : Nat) : Int)) := by rw [hkb.cell]; exact ic_bk HXL.out (i := 0) (by decide)
        have hpr := HEN.out (.inl HKK.out) HSZ2.out (fun i hi => HJ.out i hi) HN.out
        have HMB := Lib.hid hmb
        have HB := Lib.hid hbt
        clear hmb hbt hkb HN HJ hk12 hk hlt
        have HR : Hid (Nd.pr d x L = true) := by show _ = _; rw [hpr, HKK.out]; rfl
        clear hpr
        go_wp2_with fail
        go_ret
        rw [HR.out]
        exact ⟨rfl, fun _ => HMB.out, HB.out⟩
  · skip
    have f1 : ((x.kind : Int) != 1) = true := by rw [hk]; rfl
    have f2 : ((x.kind : Int) != 2) = false := by rw [hk]; rfl
    have HKK := Lib.hid hk
    clear hk
    go_enter Try.func76, Try.ntmps76
    go_upto_region 1 with fail
    rw [← HW1.out]
    go_upto_region 4 with (refine wpList_load_part rfl 40 _ rfl w.heap.size 2 12 rfl 42 (ic x) HK1.out (by rw [ic_len HXL.out]; decide) _ Try.underlying40 rfl HS12.out ?_; rw [HBL.out])
    clear z0 z1
    go_wp2_with fail
    go_loopw [7, 8, 9, 25] (fun _ _ _ i wr => ∃ k : Nat, i = .int .i64 k ∧ k ≤ 12 ∧ Mb Try.prog 3 4 wr mb (n + k) (Nd.mt (Nd.sx L x k)) ∧ Hid ((Nd.sx L x k).Nodup) ∧ Hid (∀ j, j < k → Nd.slot d x j) ∧ Bk wr w.heap.size 42 (ic x) ∧ But mb w wr) (fun _ _ _ i _ => 12 - (intOf i).toNat)
    case atStart => exact ⟨0, rfl, by omega, by rw [Nd.sx_zero]; exact HM1.out, (by rw [Nd.sx_zero]; exact HLN.out : (Nd.sx L x 0).Nodup), fun j h => absurd h (Nat.not_lt_zero _), HK1.out, HB1.out⟩
    case round =>
      clear HM1
      obtain ⟨k, rfl, hk, hmb, HN, HJ, hkb, hbt⟩ := hrel
      by_cases hlt : k < 12
      · have hix := run_index_ints x.bl HXL.out k hlt
        have eq1 : x.bl.getD k 0 = Nd.bk x k := rfl
        rw [eq1] at hix
        have z1 : wr.cell? ⟨w.heap.size, 1, none⟩ = some (.int .i64 (x.size : Int)) := hkb.cell 1
        have hq256 := HXB.out k
        have hnd := HND.out k hlt HN.out
        have hsm := HSM.out k hlt
        have hss := HSS.out k hlt
        have htw := HTW.out k hlt
        have hsl := HSL.out k hlt
        have hno := fun h0 h => Nd.slot_no (d := d) (x := x) (i := k) h0 h
        have hfu := fun h he => Nd.slot_full (d := d) (x := x) (i := k) h he
        have hta := fun h he => Nd.slot_tail (d := d) (x := x) hd (i := k) h he
        have hz0 : Nd.bk x k = 0 → Nd.slot d x k := fun h => .inl h
        have HJX : Hid (Nd.slot d x k → ∀ j, j < k + 1 → Nd.slot d x j) := fun h j hj => by
          by_cases e : j = k
          · subst e; exact h
          · exact HJ.out j (by omega)
        have hlk : ∀ q : Nat, q < 256 → (Instr.lookup 104 (.map (some mb)) (.int .i64 (q : Int)) false).run Try.prog wr = .ok (.bool (Nd.mt (Nd.sx L x k) (q : Int))) wr := fun q hq => hmb.look Try.underlying3 Try.underlying104 Try.underlying4 (Try.zeroBool wr) (WalkArith.wf_i64 (by omega))
        generalize Nd.bk x k = q at *
        have HIX := Lib.hid hix
        have HMB := Lib.hid hmb
        have HK := Lib.hid hkb
        have HB := Lib.hid hbt
        have f5 : (0 : Int) ≤ (k : Int) := by omega
        have f6 : (k : Int) < 12 := by omega
        clear hix eq1 hmb hkb hbt
        by_cases hq : q = 0
        · have HN2 := Lib.hid (hnd fun h => absurd hq h)
          have HJ2 := Lib.hid (HJX.out (hz0 hq))
          rw [if_pos hq] at hss
          have HSS2 := Lib.hid hss
          have f7 : ((q : Int) == 0) = true := by rw [hq]; rfl
          clear hq hnd hsm hss htw hsl hno hfu hta hz0 hlk hq256
          go_wp2_with (refine wpList_index_by rfl 40 _ _ rfl _ _ (.int .i64 (q : Int)) rfl rfl HIX.out ?_)
          go_roundw
          case rel => exact ⟨k + 1, by go_num, by omega, by rw [HSS2.out]; exact HMB.out.mono (by omega), HN2, HJ2, HK.out, HB.out⟩
          case measure => simp [intOf]; omega
        · have f7 : ((q : Int) == 0) = false := by rw [beq_eq_false_iff_ne]; omega
          have HPA := Lib.hid (vparts_w x.size (by have := HSZ2.out; omega))
          obtain ⟨pt, hpt⟩ : ∃ y, (x.size + 127) / 128 = y := ⟨_, rfl⟩
          rw [hpt] at HPA
          have hbm : w.heap.size ≠ mb := by omega
          have hmle : mb ≤ wr.heap.size := by have := HB.out.size; omega
          by_cases hin : 128 * k < x.size
          rotate_left
          · have HR := Lib.hid (hsl (hno hq fun h => hin h.2.2))
            have f8 : (pt : Int) ≤ (k : Int) := by omega
            clear hq hnd hsm hss htw hsl hno hfu hta hz0 hlk hq256 hpt hin
            go_wp2_with (first
              | (refine wpList_index_by rfl 40 _ _ rfl _ _ (.int .i64 (q : Int)) rfl rfl HIX.out ?_)
              | (go_at_call 41; (with_reducible refine (HPA.out _).mono ?_); rintro e w' ⟨rfl, rfl⟩))
            go_ret
            rw [HR.out]
            exact ⟨rfl, fun h => by simp at h, HB.out⟩
          have f8 : ¬ (pt : Int) ≤ (k : Int) := by omega
          by_cases h18 : q < 18
          · have HR := Lib.hid (hsl (hno hq fun h => by omega))
            have f9 : (q : Int) < 18 := by omega
            clear hq hnd hsm hss htw hsl hno hfu hta hz0 hlk hq256 hpt hin h18
            go_wp2_with (first
              | (refine wpList_index_by rfl 40 _ _ rfl _ _ (.int .i64 (q : Int)) rfl rfl HIX.out ?_)
              | (go_at_call 41; (with_reducible refine (HPA.out _).mono ?_); rintro e w' ⟨rfl, rfl⟩))
            go_ret
            rw [HR.out]
            exact ⟨rfl, fun h => by simp at h, HB.out⟩
          have f9 : ¬ (q : Int) < 18 := by omega
          by_cases h96 : 96 ≤ q
          · have HR := Lib.hid (hsl (hno hq fun h => by omega))
            have f10 : (96 : Int) ≤ (q : Int) := by omega
            clear hq hnd hsm hss htw hsl hno hfu hta hz0 hlk hq256 hpt hin h18 h96
            go_wp2_with (first
              | (refine wpList_index_by rfl 40 _ _ rfl _ _ (.int .i64 (q : Int)) rfl rfl HIX.out ?_)
              | (go_at_call 41; (with_reducible refine (HPA.out _).mono ?_); rintro e w' ⟨rfl, rfl⟩))
            go_ret
            rw [HR.out]
            exact ⟨rfl, fun h => by simp at h, HB.out⟩
          have f10 : ¬ (96 : Int) ≤ (q : Int) := by omega
          have hlq := hlk q hq256
          rw [Nd.mt_nat] at hlq
          by_cases hmem : q ∈ Nd.sx L x k
          · have HR := Lib.hid (htw hq hmem)
            rw [decide_eq_true hmem] at hlq
            clear hq hnd hsm hss htw hsl hno hfu hta hz0 hlk hq256 hpt hin h18 h96 hmem
            go_wp2_with (first
              | (refine wpList_index_by rfl 40 _ _ rfl _ _ (.int .i64 (q : Int)) rfl rfl HIX.out ?_)
              | (go_at_call 41; (with_reducible refine (HPA.out _).mono ?_); rintro e w' ⟨rfl, rfl⟩))
            go_ret
            rw [HR.out]
            exact ⟨rfl, fun h => by simp at h, HB.out⟩
          rw [decide_eq_false hmem] at hlq
          have HN2 := Lib.hid (hnd fun _ => hmem)
          have HSM2 := Lib.hid (hsm hq)
          have g1 : IntKind.i64.wrap ((k : Int) * 128) = (k : Int) * 128 := IntWalk.i64_in _ (by omega)
          have g2 : IntKind.i64.wrap ((x.size : Int) - (k : Int) * 128) = (x.size : Int) - (k : Int) * 128 := IntWalk.i64_in _ (by have := HSZ2.out; omega)
          have hrg : 18 ≤ q ∧ q < 96 ∧ 128 * k < x.size := ⟨by omega, by omega, hin⟩
          by_cases he : x.size < 128 * k + 128
          rotate_left
          · have HJ2 := Lib.hid (HJX.out (hfu hrg (by omega)))
            have g3 : ¬ (x.size : Int) - (k : Int) * 128 < 128 := by omega
            clear hq hnd hsm hss htw hsl hno hfu hta hz0 hlk hq256 hpt hin h18 h96 hmem he
            · skip
              go_wp2_with (first
                | (refine wpList_index_by rfl 40 _ _ rfl _ _ (.int .i64 (q : Int)) rfl rfl HIX.out ?_)
                | (go_at_call 41; (with_reducible refine (HPA.out _).mono ?_); rintro e w' ⟨rfl, rfl⟩)
                | (at_mapUpdate; refine wpList_update_mb rfl _ _ _ 104 rfl 3 4 Try.underlying3 Try.underlying104 Try.underlying4 mb (n + k) (Nd.mt (Nd.sx L x k)) rfl HMB.out (by unfold maxLen; omega) (q : Int) rfl (WalkArith.wf_i64 (by omega)) true rfl ?_; intro w3 hmb3 hg3; have z3 := (cell_far8 hg3 hbm 1 HK.out.lt).trans z1))
              have hb3 := HB.out.trans (But.grown hg3 hmle)
              go_roundw
              case rel => exact ⟨k + 1, by go_num, by omega, hmb3.as fun y _ => HSM2.out y, HN2, HJ2, HK.out.keep (hg3.block _ HK.out.lt (by simpa using hbm)), hb3⟩
              case measure => simp [intOf]; omega
          obtain ⟨en, hes⟩ : ∃ y, x.size - 128 * k = y := ⟨_, rfl⟩
          have g2' : IntKind.i64.wrap ((x.size : Int) - (k : Int) * 128) = (en : Int) := by rw [g2]; omega
          have g3 : (0 : Int) ≤ (en : Int) := by omega
          have g4 : (en : Int) < 128 := by omega
          have g5 : (en : Int) ≤ 128 := by omega
          have hsz := hta hrg he
          rw [hes] at hsz
          have HBLK : Hid (∀ W : World, W.cell? ⟨a, 0, none⟩ = some (.slice (some ⟨g, 0, none⟩) 12288 cap) → Calls Try.prog 43 #[.pointer (some ⟨a, 0, none⟩), .int .i64 (q : Int)] W fun e w' => e = .returned (.slice (some ⟨g, q * 128, none⟩) 128 (cap - q * 128)) ∧ W = w') := fun W hz => by
            have h := vblock_w g a 0 cap q hrg.2.1 hcn hcm hz
            rw [Nat.zero_add] at h
            exact h
          have HZR : Hid (∀ W : World, But mb w W → Calls Try.prog 74 #[.slice (some ⟨g, q * 128 + en, none⟩) (128 - en) (cap - q * 128 - en)] W fun e w' => e = .returned (.bool (Nd.zs ((d.drop (q * 128 + en)).take (128 - en)))) ∧ W = w') := fun W hW => by
            have h1 := (HS.out W fun b hb hne => hW.rest b hb hne).cut (q * 128 + en) (128 - en) (by omega)
            rw [Nat.zero_add, ← Nat.sub_sub] at h1
            exact vzero_w h1 (by rw [List.length_take]; omega)
          generalize Nd.zs ((d.drop (q * 128 + en)).take (128 - en)) = zz at *
          have f11 : ¬ cap - q * 128 < en := by unfold maxLen at hcm; omega
          cases zz with
          | false =>
            have HR := Lib.hid (hsl fun h => by rw [hsz] at h; simp at h)
            clear hq hnd hsm hss htw hsl hno hfu hta hz0 hlk hq256 hpt hin h18 h96 hmem he hes g2 hsz hrg
            go_wp2_with (first
              | (refine wpList_index_by rfl 40 _ _ rfl _ _ (.int .i64 (q : Int)) rfl rfl HIX.out ?_)
              | (go_at_call 41; (with_reducible refine (HPA.out _).mono ?_); rintro e w' ⟨rfl, rfl⟩)
              | (at_mapUpdate; refine wpList_update_mb rfl _ _ _ 104 rfl 3 4 Try.underlying3 Try.underlying104 Try.underlying4 mb (n + k) (Nd.mt (Nd.sx L x k)) rfl HMB.out (by unfold maxLen; omega) (q : Int) rfl (WalkArith.wf_i64 (by omega)) true rfl ?_; intro w3 hmb3 hg3; have z3 := (cell_far8 hg3 hbm 1 HK.out.lt).trans z1; have hb3 := HB.out.trans (But.grown hg3 hmle); have hv3 := HV.out.but hb3 ha)
              | (go_at_call 43; (with_reducible refine (HBLK.out _ hv3.disk).mono ?_); rintro e w' ⟨rfl, rfl⟩)
              | (go_at_call 74; (with_reducible refine (HZR.out _ hb3).mono ?_); rintro e w' ⟨rfl, rfl⟩))
            go_ret
            rw [HR.out]
            exact ⟨rfl, fun h => by simp at h, hb3⟩
          | true =>
            have HJ2 := Lib.hid (HJX.out (hsz.2 rfl))
            clear hq hnd hsm hss htw hsl hno hfu hta hz0 hlk hq256 hpt hin h18 h96 hmem he hes g2 hsz hrg
            go_wp2_with (first
              | (refine wpList_index_by rfl 40 _ _ rfl _ _ (.int .i64 (q : Int)) rfl rfl HIX.out ?_)
              | (go_at_call 41; (with_reducible refine (HPA.out _).mono ?_); rintro e w' ⟨rfl, rfl⟩)
              | (at_mapUpdate; refine wpList_update_mb rfl _ _ _ 104 rfl 3 4 Try.underlying3 Try.underlying104 Try.underlying4 mb (n + k) (Nd.mt (Nd.sx L x k)) rfl HMB.out (by unfold maxLen; omega) (q : Int) rfl (WalkArith.wf_i64 (by omega)) true rfl ?_; intro w3 hmb3 hg3; have z3 := (cell_far8 hg3 hbm 1 HK.out.lt).trans z1; have hb3 := HB.out.trans (But.grown hg3 hmle); have hv3 := HV.out.but hb3 ha)
              | (go_at_call 43; (with_reducible refine (HBLK.out _ hv3.disk).mono ?_); rintro e w' ⟨rfl, rfl⟩)
              | (go_at_call 74; (with_reducible refine (HZR.out _ hb3).mono ?_); rintro e w' ⟨rfl, rfl⟩))
            go_roundw
            case rel => exact ⟨k + 1, by go_num, by omega, hmb3.as fun y _ => HSM2.out y, HN2, HJ2, HK.out.keep (hg3.block _ HK.out.lt (by simpa using hbm)), hb3⟩
            case measure => simp [intOf]; omega
      · have hk12 : k = 12 := by omega
        have f5 : ¬ (k : Int) < 12 := by omega
        rw [hk12] at hmb HN HJ
        rw [HSA.out] at hmb
        have z0 : wr.cell? ⟨w.heap.size, 0, none⟩ = some (.int .i64 (x.kind : Int)) := hkb.cell 0
        have z1 : wr.cell? ⟨w.heap.size, 1, none⟩ = some (.int .i64 (x.size : Int)) := hkb.cell 1
        have z2 : wr.cell? ⟨w.heap.size, 2, none⟩ = some (.int .i64 ((Nd.bk x 0 : Nat) : Int)) := by rw [hkb.cell]; exact ic_bk HXL.out (i := 0) (by decide)
        have hpr := HEN.out (.inr HKK.out) HSZ2.out (fun i hi => HJ.out i hi) HN.out
        have HMB := Lib.hid hmb
        have HB := Lib.hid hbt
        clear hmb hbt hkb HN HJ hk12 hk hlt
        have hpr2 : Nd.pr d x L = (decide (x.size = 128) && decide (Nd.bk x 0 ≠ 0)) := by rw [hpr, HKK.out]; rfl
        clear hpr
        by_cases h128 : x.size = 128
        rotate_left
        · have HR : Hid (Nd.pr d x L = false) := by show _ = _; rw [hpr2, decide_eq_false h128]; rfl
          have f8 : ((x.size : Int) == 128) = false := by rw [beq_eq_false_iff_ne]; omega
          clear hpr2 h128
          go_wp2_with fail
          go_ret
          rw [HR.out]
          exact ⟨rfl, fun h => by first | exact HMB.out | simp at h, HB.out⟩
        have f8 : ((x.size : Int) == 128) = true := by rw [h128]; rfl
        by_cases hb0 : Nd.bk x 0 = 0
        · have HR : Hid (Nd.pr d x L = false) := by show _ = _; rw [hpr2, hb0]; simp
          have f9 : ((Nd.bk x 0 : Int) != 0) = false := by rw [hb0]; rfl
          generalize Nd.bk x 0 = q at *
          clear hpr2 h128 hb0
          go_wp2_with fail
          go_ret
          rw [HR.out]
          exact ⟨rfl, fun h => by first | exact HMB.out | simp at h, HB.out⟩
        · have HR : Hid (Nd.pr d x L = true) := by show _ = _; rw [hpr2, decide_eq_true h128, decide_eq_true hb0]; rfl
          have f9 : ((Nd.bk x 0 : Int) != 0) = true := by rw [bne_iff_ne]; omega
          generalize Nd.bk x 0 = q at *
          clear hpr2 h128 hb0
          go_wp2_with fail
          go_ret
          rw [HR.out]
          exact ⟨rfl, fun h => by first | exact HMB.out | simp at h, HB.out⟩
end Go.Proofs.Ytbklmpekpcneeaa
