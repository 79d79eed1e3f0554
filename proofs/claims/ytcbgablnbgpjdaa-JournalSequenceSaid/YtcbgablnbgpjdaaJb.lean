/-
  The walks of block and slots, of slices.Clone of bytes, of own, from and few of the laws.
-/
import Derived.Test.YtcbgablnbgpjdaaJa
namespace Go.Proofs.Ytcbgablnbgpjdaa
open Go.RowKit

/-- A part of a slice. -/
theorem Sl.cut {α : Type} {enc : α → Value} {w : World} {b off n cap : Nat} {xs : List α} (h : Sl enc w (.slice (some ⟨b, off, none⟩) n cap) xs) (i m : Nat) (hi : i + m ≤ n) : Sl enc w (.slice (some ⟨b, off + i, none⟩) m (cap - i)) ((xs.drop i).take m) := by
  obtain ⟨a, c, h1, h2, h3, -, h5⟩ := h
  injection h1 with q1 q2 q3
  subst q1 q2 q3
  refine ⟨_, _, by rw [List.length_take, List.length_drop]; congr 1; omega, by rw [List.length_take, List.length_drop]; omega, by omega, by simp, fun j hj => ?_⟩
  rw [List.length_take, List.length_drop] at hj
  obtain ⟨g, o, e1, e2, e3⟩ := h5 (i + j) (by omega)
  simp only [Option.some.injEq, Addr.mk.injEq, and_true] at e1
  obtain ⟨rfl, rfl⟩ := e1
  refine ⟨_, _, rfl, e2, ?_⟩
  rw [List.getElem_take, List.getElem_drop, Nat.add_assoc]
  exact e3

theorem Sl.addr {w : World} {a : Option Addr} {n cap : Nat} {xs : List UInt8} (h : Sl eb w (.slice a n cap) xs) (h0 : 0 < n) : ∃ b off, a = some ⟨b, off, none⟩ ∧ b < w.heap.size ∧ n = xs.length ∧ n ≤ cap ∧ cap ≤ maxLen := by
  obtain ⟨a, c, h1, h2, h3, -, h5⟩ := h
  injection h1 with q1 q2 q3
  subst q1 q2 q3
  obtain ⟨b, off, e, e2, -⟩ := h5 0 h0
  exact ⟨b, off, e, e2, rfl, h2, h3⟩

theorem Try.info5 : (Try.prog.info? 5).map (fun i => (i.zero, i.size, i.bytes)) = some (some (.int .u8 0), 1, 1) := by kernel_rfl
theorem Try.infoJ : (Try.prog.info? 63).map (fun i => (i.zero, i.size, i.bytes)) = some (some (.agg #[.int .i64 0, .slice none 0 0]), 2, 32) := by kernel_rfl
theorem Try.infoR : (Try.prog.info? 66).map (fun i => (i.zero, i.size, i.bytes)) = some (some (.agg #[.int .i64 0, .slice none 0 0]), 2, 32) := by kernel_rfl

theorem block_w (g off cap k : Nat) (hk : k < 96) (hc : 12288 ≤ cap) (hm : cap ≤ maxLen) (w : World) :
    Calls Try.prog 40 #[.slice (some ⟨g, off, none⟩) 12288 cap, .int .i64 (k : Int)] w fun e w' => e = .returned (.slice (some ⟨g, off + k * 128, none⟩) 128 (cap - k * 128)) ∧ w = w' := by
  unfold maxLen at hm
  have f1 : (0 : Int) ≤ (k : Int) * 128 := by omega
  have f2 : (k : Int) * 128 ≤ ((k : Int) + 1) * 128 := by omega
  have f3 : ((k : Int) + 1) * 128 ≤ (cap : Int) := by omega
  go_enter Try.func40, Try.ntmps40
  go_wp2
  go_ret
  exact ⟨by rw [show (k + 1) * 128 - k * 128 = 128 by omega]; rfl, rfl⟩

theorem rblock_w (g off cap k : Nat) (hk : k < 96) (hc : 12288 ≤ cap) (hm : cap ≤ maxLen) (w : World) :
    Calls Try.prog 32 #[.slice (some ⟨g, off, none⟩) 12288 cap, .int .i64 (k : Int)] w fun e w' => e = .returned (.slice (some ⟨g, off + k * 128, none⟩) 128 (cap - k * 128)) ∧ w = w' := by
  unfold maxLen at hm
  have f1 : (0 : Int) ≤ (k : Int) * 128 := by omega
  have f2 : (k : Int) * 128 ≤ ((k : Int) + 1) * 128 := by omega
  have f3 : ((k : Int) + 1) * 128 ≤ (cap : Int) := by omega
  go_enter Try.func32, Try.ntmps32
  go_wp2
  go_ret
  exact ⟨by rw [show (k + 1) * 128 - k * 128 = 128 by omega]; rfl, rfl⟩

theorem jslots_w (g off cap : Nat) (hc : 12288 ≤ cap) (hm : cap ≤ maxLen) (w : World) :
    Calls Try.prog 36 #[.slice (some ⟨g, off, none⟩) 12288 cap] w fun e w' => e = .returned (.slice (some ⟨g, off + 256, none⟩) 1408 (cap - 256)) ∧ w = w' := by
  unfold maxLen at hm
  have f3 : (1664 : Int) ≤ (cap : Int) := by omega
  go_enter Try.func36, Try.ntmps36
  go_wp2
  go_ret
  exact ⟨rfl, rfl⟩

/-- slices.Clone of bytes. -/
theorem bclone_w {v : Value} {xs : List UInt8} {w : World} (hv : Sl eb w v xs) (hm : xs.length ≤ 1000000) :
    Calls Try.prog 35 #[v] w fun e w' => ∃ v, e = .returned v ∧ w'.ownsRow w.heap.size 5 1 v xs.length (xs.map eb) ∧ Below w.heap.size w w' := by
  obtain ⟨a, cap, rfl, hc, hcm, hn, hr⟩ := hv
  obtain ⟨i0, hi, hz0, hz1, hz2⟩ := info_parts Try.info5
  have he := fun (W : World) (a : Option Addr) (n c : Nat) => Lib.run_eql_slice_nil (P := Try.prog) W 29 5 a n c 0 0 Try.underlying29
  cases a with
  | none =>
    have hc0 := hn rfl
    obtain rfl : xs = [] := by cases xs with | nil => rfl | cons x xs => simp at hc; omega
    subst hc0
    go_enter Try.func35, Try.ntmps35
    go_wp2
    go_ret
    exact ⟨_, rfl, World.ownsRow_nil _ _ _ _, Below.refl _ _⟩
  | some ad =>
    go_enter Try.func35, Try.ntmps35
    go_wp2_with (at_builtin; refine wpList_append_rd eb (fun _ => rfl) rfl _ _ 29 rfl w.heap.size 5 i0 (.int .u8 0) 1 Try.underlying29 hi hz0 hz1 hz2 rfl _ 0 [] rfl (World.ownsRow_made w #[] 0 (Nat.le_refl _) (Nat.zero_le _) rfl) (some ad) cap xs xs.length rfl rfl (by simp) hc (hr.below ((Below.refl _ w).alloc (Nat.le_refl _) _) (Nat.le_refl _)) (by unfold maxLen; omega) (by omega) (by simp) ?_; intro v1 w1 hown hg hbl)
    go_wp2
    go_ret
    exact ⟨_, rfl, by simpa using hown, ((Below.refl _ w).alloc (Nat.le_refl _) _).trans hbl⟩

/-- The slots of the reference: copied. -/
theorem rslots_w {g off cap : Nat} {d : List UInt8} {w : World} (hv : Sl eb w (.slice (some ⟨g, off, none⟩) 12288 cap) d) :
    Calls Try.prog 34 #[.slice (some ⟨g, off, none⟩) 12288 cap] w fun e w' => ∃ v, e = .returned v ∧ w'.ownsRow w.heap.size 5 1 v 1408 ((Jr.slots d).map eb) ∧ Below w.heap.size w w' := by
  obtain ⟨-, -, -, -, hd, hc, hm⟩ := hv.addr (by omega)
  have hs := hv.cut 256 1408 (by omega)
  have hl : (Jr.slots d).length = 1408 := by unfold Jr.slots; simp; omega
  obtain ⟨i0, hi, hz0, hz1, hz2⟩ := info_parts Try.info5
  have HD := Lib.hid hd
  have HL := Lib.hid hl
  unfold maxLen at hm
  have f3 : (1664 : Int) ≤ (cap : Int) := by omega
  obtain ⟨a2, c2, q, hs2, hs3, -, hr⟩ := hs
  injection q with q1 q2 q3
  subst q1 q3
  have HR : Hid (Rd eb w (some ⟨g, off + 256, none⟩) (Jr.slots d)) := hr
  clear hr hd hl q2 hv hs2 hs3
  go_enter Try.func34, Try.ntmps34
  go_wp2_with (at_builtin; refine wpList_append_rd eb (fun _ => rfl) rfl _ _ 29 rfl w.heap.size 5 i0 (.int .u8 0) 1 Try.underlying29 hi hz0 hz1 hz2 rfl _ 0 [] rfl (World.ownsRow_made w #[] 0 (Nat.le_refl _) (Nat.zero_le _) rfl) (some ⟨g, off + 256, none⟩) (cap - 256) (Jr.slots d) 1408 rfl HL.out (by simp) (by omega) (HR.out.below ((Below.refl _ w).alloc (Nat.le_refl _) _) (Nat.le_refl _)) (by unfold maxLen; omega) (by omega) (by simp) ?_; intro v1 w1 hown hg hbl)
  go_wp2
  go_ret
  exact ⟨_, rfl, by simpa using hown, ((Below.refl _ w).alloc (Nat.le_refl _) _).trans hbl⟩
end Go.Proofs.Ytcbgablnbgpjdaa
