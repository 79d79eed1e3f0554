/-
  The walk of run of the laws.
-/
import Derived.Test.YteeoonoccklhmaaAwk
namespace Dk
/-- Ticks until there is an answer. -/
def run : Nat → St → St × An × Bool
  | 0, s => (s, zan, false)
  | n + 1, s => match (tick s).2 with
    | [a] => ((tick s).1, a, true)
    | _ => run n (tick s).1
theorem run_zero (s : St) : run 0 s = (s, zan, false) := rfl
theorem run_some {n : Nat} {s s' : St} {a : An} (h : tick s = (s', [a])) : run (n + 1) s = (s', a, true) := by unfold run; rw [h]
theorem run_none {n : Nat} {s s' : St} (h : tick s = (s', [])) : run (n + 1) s = run n s' := by rw [run, h]
/-- Sizes of a state. -/
def Sized (s : St) : Prop := s.1.length ≤ 1000 ∧ s.2.2.1.2.2.2.length ≤ 1000 ∧ s.2.2.2.2.2.2.length ≤ 1000
theorem answer_len {bs : List (List UInt8)} {c : Cm} (hb : ∀ b ∈ bs, b.length = 128) : (answer bs c).1.2.2.length ≤ 1000 ∧ (answer bs c).2.length = bs.length := by
  have hg : ∀ k, (bs.getD k []).length ≤ 128 := fun k => by
    by_cases hk : k < bs.length
    · have := hb _ (List.getElem_mem hk)
      simp [List.getD, hk, this]
    · simp [List.getD, hk]
  unfold answer
  split
  · exact ⟨by simp, rfl⟩
  · split
    · exact ⟨by simp, rfl⟩
    · split
      · exact ⟨by have := hg c.2.2.1.toNat; simp only; omega, rfl⟩
      · exact ⟨by simp, by simp⟩
theorem tick_sized {s : St} (h : Sized s) : Sized (tick s).1 ∧ (tick s).2.length ≤ 1 := by
  unfold tick
  split
  · exact ⟨⟨by simp [zst], by simp [zst, zch, zcm], by simp [zst, zch, zan]⟩, by simp⟩
  · rename_i hv
    split
    · exact ⟨h, by simp⟩
    · split
      · exact ⟨⟨h.1, h.2.1, h.2.2⟩, by simp⟩
      · split
        · exact ⟨⟨h.1, by simp [zcm], h.2.2⟩, by simp⟩
        · have hv' : valid s = true := by simpa using hv
          unfold valid all128 at hv'
          simp only [Bool.and_eq_true, decide_eq_true_eq, List.all_eq_true] at hv'
          have := answer_len (bs := s.1) (c := s.2.2.1) hv'.2.2
          exact ⟨⟨by rw [this.2]; exact h.1, by simp [zcm], this.1⟩, by simp⟩
end Dk
namespace Go.Proofs.Yteeoonoccklhmaa
open Go.RowKit

theorem drewh (W : World) (b : Nat) : W.drew.heap[b]? = W.heap[b]? := rfl
theorem drews (W : World) : W.drew.heap.size = W.heap.size := rfl
theorem set3_bk {W : World} {b : Nat} {T : TypeId} {x0 x1 x2 : Value} (h : Bk W b T [x0, x1, x2]) (v0 v1 v2 : Value) : Bk (((W.setCell ⟨b, 0, none⟩ v0).setCell ⟨b, 1, none⟩ v1).setCell ⟨b, 2, none⟩ v2) b T [v0, v1, v2] := ((h.set 0 v0).set 1 v1).set 2 v2

/-- What run returns. -/
def RetRun (w : World) (Y : Nat → Prop) (r : Dk.St × Dk.An × Bool) (e : Ending) (w' : World) : Prop :=
  ∃ ub uc ul es u, e = .returned (.tuple #[.agg #[ub, .bool r.1.2.1, .int .i64 r.1.2.2.1.1, .int .i64 r.1.2.2.1.2.1, .int .i64 r.1.2.2.1.2.2.1, uc, .int .i64 r.1.2.2.2.1, .int .i64 r.1.2.2.2.2.1, .int .i64 r.1.2.2.2.2.2.1, ul], .agg #[.int .i64 r.2.1.1, .int .i64 r.2.1.2.1, u], .bool r.2.2]) ∧ Dv Y w' ub uc ul es r.1.1 r.1.2.2.1.2.2.2 r.1.2.2.2.2.2.2 ∧ Av Y (fun W => Sl eb W u r.2.1.2.2) w' ∧ Below w.heap.size w w'

theorem AnsV.keep {B : Nat} {W W' : World} {v : Value} {l : List Dk.An} (h : AnsV B W v l) (hk : ∀ k, B ≤ k → k < W.heap.size → W'.heap[k]? = W.heap[k]?) : AnsV B W' v l :=
  match l, h with
  | [], h => h
  | [a], h => by
    obtain ⟨b, u, h1, h2, h3, h4⟩ := h
    exact ⟨b, u, h1, h2, h3.keep (hk b h2 h3.lt), own_keep h4 fun k hk' => hk k (h4.lt k hk').1 (h4.lt k hk').2⟩
  | _ :: _ :: _, h => h.elim
theorem AnsV.below {B : Nat} {W W' : World} {v : Value} {l : List Dk.An} (h : AnsV B W v l) (hb : Below W.heap.size W W') : AnsV B W' v l := h.keep fun k _ h2 => hb.block k h2
/-- Between two rounds: the boxes of run, and the state that the first one holds. -/
structure RunAt (w : World) (Y : Nat → Prop) (W : World) (o : Bool) (ct co cp l lt la : Int) (ub uc ul : Value) (es : List Tr) (bs : List (List UInt8)) (cd ld : List UInt8) : Prop where
  k : Bk W w.heap.size 39 (dkC ub o ct co cp uc l lt la ul)
  r : Bk W (w.heap.size + 1) 39 (dkC (.slice none 0 0) false 0 0 0 (.slice none 0 0) 0 0 0 (.slice none 0 0))
  a : Bk W (w.heap.size + 1 + 1) 35 [.int .i64 0, .int .i64 0, .slice none 0 0]
  d : Dv (fun b => Y b ∨ (w.heap.size ≤ b ∧ b ≤ w.heap.size + 2)) W ub uc ul es bs cd ld
  z : Dk.Sized (bs, (o, (ct, co, cp, cd), l, (lt, la, ld)))
  low : Below w.heap.size w W

set_option maxRecDepth 100000 in
set_option maxHeartbeats 8000000 in
theorem run_w (o : Bool) (ct co cp l lt la : Int) {ub uc ul : Value} {es : List Tr} {bs : List (List UInt8)} {cd ld : List UInt8} {w : World} {Y : Nat → Prop} (hd : Dv Y w ub uc ul es bs cd ld) (hY : ∀ b, Y b → b < w.heap.size)
    (hs : Dk.Sized (bs, (o, (ct, co, cp, cd), l, (lt, la, ld)))) :
    Calls Try.prog 13 #[.agg #[ub, .bool o, .int .i64 ct, .int .i64 co, .int .i64 cp, uc, .int .i64 l, .int .i64 lt, .int .i64 la, ul]] w (RetRun w Y (Dk.run 3 (bs, (o, (ct, co, cp, cd), l, (lt, la, ld))))) := by
  obtain ⟨aub, cub, hub, -⟩ := id hd.here.r
  obtain ⟨auc, cuc, huc, -⟩ := id hd.here.c
  obtain ⟨aul, cul, hul, -⟩ := id hd.here.l
  subst hub huc hul
  have hA : RunAt w Y (((w.alloc (.cells #[.slice aub es.length cub, .bool o, .int .i64 ct, .int .i64 co, .int .i64 cp, .slice auc cd.length cuc, .int .i64 l, .int .i64 lt, .int .i64 la, .slice aul ld.length cul] 39 (0, 0))).alloc (.cells #[.slice none 0 0, .bool false, .int .i64 0, .int .i64 0, .int .i64 0, .slice none 0 0, .int .i64 0, .int .i64 0, .int .i64 0, .slice none 0 0] 39 (0, 0))).alloc (.cells #[.int .i64 0, .int .i64 0, .slice none 0 0] 35 (0, 0))) o ct co cp l lt la (.slice aub es.length cub) (.slice auc cd.length cuc) (.slice aul ld.length cul) es bs cd ld :=
    ⟨((Bk.new w _ (dkC _ _ _ _ _ _ _ _ _ _)).alloc _).alloc _, (Bk.newAt _ _ (dkC _ _ _ _ _ _ _ _ _ _) (by simp)).alloc _, Bk.newAt _ _ [_, _, _] (by simp),
      (hd.more (Y := fun b => Y b ∨ (w.heap.size ≤ b ∧ b ≤ w.heap.size + 2)) (fun b hb => hb.imp id (fun h => h.1))).below (((low_alloc _ _).alloc (by simp) _).alloc (by simp; omega) _), hs, ((low_alloc _ _).alloc (by simp) _).alloc (by simp; omega) _⟩
  have HA := Lib.hid hA
  have HY := Lib.hid hY
  clear hd hs hA hY
  generalize hs0 : (bs, (o, (ct, co, cp, cd), l, (lt, la, ld))) = s0
  have HS0 := Lib.hid hs0
  clear hs0
  go_enter Try.func13, Try.ntmps13
  go_wp2_with fail
  go_loopw [7] (fun s7 wr => ∃ (k : Nat) (o : Bool) (ct co cp l lt la : Int) (ub uc ul : Value) (es : List Tr) (bs : List (List UInt8)) (cd ld : List UInt8), s7 = .int .i64 k ∧ k ≤ 3 ∧ Hid (Dk.run 3 s0 = Dk.run (3 - k) (bs, (o, (ct, co, cp, cd), l, (lt, la, ld)))) ∧ Hid (RunAt w Y wr o ct co cp l lt la ub uc ul es bs cd ld)) (fun s7 _ => 3 - (intOf s7).toNat)
  case atStart => exact ⟨0, o, ct, co, cp, l, lt, la, _, _, _, es, bs, cd, ld, rfl, Nat.zero_le _, by show _ = _; rw [← HS0.out], HA⟩
  case round =>
    obtain ⟨k, o, ct, co, cp, l, lt, la, ub, uc, ul, es, bs, cd, ld, rfl, hk, HRN, HR⟩ := hrel
    obtain ⟨aub, cub, hub, -⟩ := id HR.out.d.here.r
    obtain ⟨auc, cuc, huc, -⟩ := id HR.out.d.here.c
    obtain ⟨aul, cul, hul, -⟩ := id HR.out.d.here.l
    subst hub huc hul
    by_cases hlt : k < 3
    · have hX : ∀ b, (fun b => Y b ∨ (w.heap.size ≤ b ∧ b ≤ w.heap.size + 2)) b → b < wr.heap.size := fun b hb => hb.elim (fun h => by have := HY.out b h; have := HR.out.low.size; omega) (fun h => by have := HR.out.a.lt; omega)
      obtain ⟨⟨bs2, o2, ⟨ct2, co2, cp2, cd2⟩, l2, lt2, la2, ld2⟩, an, htk⟩ : ∃ (s : Dk.St) (a : List Dk.An), Dk.tick (bs, (o, (ct, co, cp, cd), l, (lt, la, ld))) = (s, a) := ⟨_, _, rfl⟩
      have hsz := Dk.tick_sized HR.out.z
      rw [htk] at hsz
      have hz := HR.out.z
      have HT := Lib.hid (tick_f (w := wr) (X := (fun b => Y b ∨ (w.heap.size ≤ b ∧ b ≤ w.heap.size + 2))) o ct co cp l lt la HR.out.d.here (Av.mono HR.out.d (fun W h => h.e)) (by have := HR.out.d.here.n; have := hz.1; simp only at this; omega) hz.2.1 hz.2.2 hX htk rfl rfl rfl)
      have HZ := Lib.hid hsz
      have HTK := Lib.hid htk
      have HXX := Lib.hid hX
      clear hsz htk hX hz
      obtain ⟨⟨p0, p1, p2, p3, p4, p5, p6, p7, p8, p9⟩, -⟩ := Bk.fd HR.out.k
      go_upto_region 4 with (go_at_call 20; (with_reducible refine HT.out.mono ?_); rintro e w1 ⟨a2, k2, c2, d2, b2, r2, es2, v2, rfl, hdw, han, hb1⟩)
      have hk1 := (HR.out.k.below hb1 HR.out.k.lt).alloc (.cells #[.slice a2 bs2.length k2, .bool o2, .int .i64 ct2, .int .i64 co2, .int .i64 cp2, .slice c2 cd2.length d2, .int .i64 l2, .int .i64 lt2, .int .i64 la2, .slice b2 ld2.length r2] 39 (0, 0))
      have hr1 := (HR.out.r.below hb1 HR.out.r.lt).alloc (.cells #[.slice a2 bs2.length k2, .bool o2, .int .i64 ct2, .int .i64 co2, .int .i64 cp2, .slice c2 cd2.length d2, .int .i64 l2, .int .i64 lt2, .int .i64 la2, .slice b2 ld2.length r2] 39 (0, 0))
      have ha1 := (HR.out.a.below hb1 HR.out.a.lt).alloc (.cells #[.slice a2 bs2.length k2, .bool o2, .int .i64 ct2, .int .i64 co2, .int .i64 cp2, .slice c2 cd2.length d2, .int .i64 l2, .int .i64 lt2, .int .i64 la2, .slice b2 ld2.length r2] 39 (0, 0))
      have hn1 : Bk (w1.alloc (.cells #[.slice a2 bs2.length k2, .bool o2, .int .i64 ct2, .int .i64 co2, .int .i64 cp2, .slice c2 cd2.length d2, .int .i64 l2, .int .i64 lt2, .int .i64 la2, .slice b2 ld2.length r2] 39 (0, 0))) w1.heap.size 39 (dkC (.slice a2 bs2.length k2) o2 ct2 co2 cp2 (.slice c2 cd2.length d2) l2 lt2 la2 (.slice b2 ld2.length r2)) := Bk.new w1 _ (dkC _ _ _ _ _ _ _ _ _ _)
      have hdv1 : Dv (fun b => Y b ∨ (w.heap.size ≤ b ∧ b ≤ w.heap.size + 2)) (w1.alloc (.cells #[.slice a2 bs2.length k2, .bool o2, .int .i64 ct2, .int .i64 co2, .int .i64 cp2, .slice c2 cd2.length d2, .int .i64 l2, .int .i64 lt2, .int .i64 la2, .slice b2 ld2.length r2] 39 (0, 0))) (.slice a2 bs2.length k2) (.slice c2 cd2.length d2) (.slice b2 ld2.length r2) es2 bs2 cd2 ld2 := (hdw.dv HXX.out).below (low_alloc _ _)
      have hlo1 : Below w.heap.size w (w1.alloc (.cells #[.slice a2 bs2.length k2, .bool o2, .int .i64 ct2, .int .i64 co2, .int .i64 cp2, .slice c2 cd2.length d2, .int .i64 l2, .int .i64 lt2, .int .i64 la2, .slice b2 ld2.length r2] 39 (0, 0))) := stepAny (stepAny HR.out.low hb1) (low_alloc _ _)
      have han1 : AnsV wr.heap.size (w1.alloc (.cells #[.slice a2 bs2.length k2, .bool o2, .int .i64 ct2, .int .i64 co2, .int .i64 cp2, .slice c2 cd2.length d2, .int .i64 l2, .int .i64 lt2, .int .i64 la2, .slice b2 ld2.length r2] 39 (0, 0))) v2 an := han.below (low_alloc _ _)
      have hbn : w.heap.size + 1 + 1 < w1.heap.size := (HR.out.a.below hb1 HR.out.a.lt).lt
      clear hdw han hb1 p0 p1 p2 p3 p4 p5 p6 p7 p8 p9 HT
      generalize (w1.alloc (.cells #[.slice a2 bs2.length k2, .bool o2, .int .i64 ct2, .int .i64 co2, .int .i64 cp2, .slice c2 cd2.length d2, .int .i64 l2, .int .i64 lt2, .int .i64 la2, .slice b2 ld2.length r2] 39 (0, 0))) = W1 at *
      obtain ⟨bn, hbn0⟩ : ∃ b, b = w1.heap.size := ⟨_, rfl⟩
      rw [← hbn0] at hn1 hbn ⊢
      clear hbn0
      obtain ⟨⟨p0, p1, p2, p3, p4, p5, p6, p7, p8, p9⟩, g0, g1, g2, g3, g4, g5, g6, g7, g8, g9⟩ := Bk.fd hk1
      obtain ⟨⟨q0, q1, q2, q3, q4, q5, q6, q7, q8, q9⟩, -⟩ := Bk.fd hn1
      go_upto_region 5 with fail
      have hA2 : RunAt w Y ((((((((((W1.setCell ⟨w.heap.size, 0, none⟩ (.slice a2 bs2.length k2)).setCell ⟨w.heap.size, 1, none⟩ (.bool o2)).setCell ⟨w.heap.size, 2, none⟩ (.int .i64 ct2)).setCell ⟨w.heap.size, 3, none⟩ (.int .i64 co2)).setCell ⟨w.heap.size, 4, none⟩ (.int .i64 cp2)).setCell ⟨w.heap.size, 5, none⟩ (.slice c2 cd2.length d2)).setCell ⟨w.heap.size, 6, none⟩ (.int .i64 l2)).setCell ⟨w.heap.size, 7, none⟩ (.int .i64 lt2)).setCell ⟨w.heap.size, 8, none⟩ (.int .i64 la2)).setCell ⟨w.heap.size, 9, none⟩ (.slice b2 ld2.length r2)) o2 ct2 co2 cp2 l2 lt2 la2 (.slice a2 bs2.length k2) (.slice c2 cd2.length d2) (.slice b2 ld2.length r2) es2 bs2 cd2 ld2 :=
        ⟨hk1.set10 (.slice a2 bs2.length k2) (.bool o2) (.int .i64 ct2) (.int .i64 co2) (.int .i64 cp2) (.slice c2 cd2.length d2) (.int .i64 l2) (.int .i64 lt2) (.int .i64 la2) (.slice b2 ld2.length r2), hr1.keep (set10_heap (W := W1) (b := w.heap.size) (by omega) (.slice a2 bs2.length k2) (.bool o2) (.int .i64 ct2) (.int .i64 co2) (.int .i64 cp2) (.slice c2 cd2.length d2) (.int .i64 l2) (.int .i64 lt2) (.int .i64 la2) (.slice b2 ld2.length r2)), ha1.keep (set10_heap (W := W1) (b := w.heap.size) (by omega) (.slice a2 bs2.length k2) (.bool o2) (.int .i64 ct2) (.int .i64 co2) (.int .i64 cp2) (.slice c2 cd2.length d2) (.int .i64 l2) (.int .i64 lt2) (.int .i64 la2) (.slice b2 ld2.length r2)), hdv1.set10 (.inr ⟨Nat.le_refl _, by omega⟩) (.slice a2 bs2.length k2) (.bool o2) (.int .i64 ct2) (.int .i64 co2) (.int .i64 cp2) (.slice c2 cd2.length d2) (.int .i64 l2) (.int .i64 lt2) (.int .i64 la2) (.slice b2 ld2.length r2), HZ.out.1, set10 hlo1 (Nat.le_refl _) (.slice a2 bs2.length k2) (.bool o2) (.int .i64 ct2) (.int .i64 co2) (.int .i64 cp2) (.slice c2 cd2.length d2) (.int .i64 l2) (.int .i64 lt2) (.int .i64 la2) (.slice b2 ld2.length r2)⟩
      have han2 : AnsV wr.heap.size ((((((((((W1.setCell ⟨w.heap.size, 0, none⟩ (.slice a2 bs2.length k2)).setCell ⟨w.heap.size, 1, none⟩ (.bool o2)).setCell ⟨w.heap.size, 2, none⟩ (.int .i64 ct2)).setCell ⟨w.heap.size, 3, none⟩ (.int .i64 co2)).setCell ⟨w.heap.size, 4, none⟩ (.int .i64 cp2)).setCell ⟨w.heap.size, 5, none⟩ (.slice c2 cd2.length d2)).setCell ⟨w.heap.size, 6, none⟩ (.int .i64 l2)).setCell ⟨w.heap.size, 7, none⟩ (.int .i64 lt2)).setCell ⟨w.heap.size, 8, none⟩ (.int .i64 la2)).setCell ⟨w.heap.size, 9, none⟩ (.slice b2 ld2.length r2)) v2 an := han1.keep fun k hk _ => set10_heap (W := W1) (b := w.heap.size) (by have := HR.out.k.lt; omega) (.slice a2 bs2.length k2) (.bool o2) (.int .i64 ct2) (.int .i64 co2) (.int .i64 cp2) (.slice c2 cd2.length d2) (.int .i64 l2) (.int .i64 lt2) (.int .i64 la2) (.slice b2 ld2.length r2)
      have HA2 := Lib.hid hA2
      clear hA2 han1 hk1 hr1 ha1 hn1 hdv1 hlo1 p0 p1 p2 p3 p4 p5 p6 p7 p8 p9 g0 g1 g2 g3 g4 g5 g6 g7 g8 g9 q0 q1 q2 q3 q4 q5 q6 q7 q8 q9
      generalize ((((((((((W1.setCell ⟨w.heap.size, 0, none⟩ (.slice a2 bs2.length k2)).setCell ⟨w.heap.size, 1, none⟩ (.bool o2)).setCell ⟨w.heap.size, 2, none⟩ (.int .i64 ct2)).setCell ⟨w.heap.size, 3, none⟩ (.int .i64 co2)).setCell ⟨w.heap.size, 4, none⟩ (.int .i64 cp2)).setCell ⟨w.heap.size, 5, none⟩ (.slice c2 cd2.length d2)).setCell ⟨w.heap.size, 6, none⟩ (.int .i64 l2)).setCell ⟨w.heap.size, 7, none⟩ (.int .i64 lt2)).setCell ⟨w.heap.size, 8, none⟩ (.int .i64 la2)).setCell ⟨w.heap.size, 9, none⟩ (.slice b2 ld2.length r2)) = W2 at *
      match an, han2, HTK, HZ with
      | [], hv, HTK, HZ =>
        obtain rfl : v2 = .slice none 0 0 := hv
        go_wp2_with fail
        go_roundw
        case rel => exact ⟨k + 1, o2, ct2, co2, cp2, l2, lt2, la2, _, _, _, es2, bs2, cd2, ld2, by go_num, by omega, by show _ = _; rw [HRN.out, show 3 - k = (3 - (k + 1)) + 1 by omega, Dk.run_none HTK.out], HA2⟩
        case measure => simp [intOf]; omega
      | [aa], hv, HTK, HZ =>
        obtain ⟨bA, uA, rfl, hbA, hkA, hoA⟩ := hv
        obtain ⟨t4, an4, dd⟩ := aa
        obtain ⟨a5, k5, rfl⟩ := own_slice hoA
        have hRN := HRN.out
        rw [show 3 - k = (2 - k) + 1 by omega, Dk.run_some HTK.out] at hRN
        have HRN3 := Lib.hid hRN
        clear hRN
        have hlt' := HA2.out.a.lt
        have hwr := HR.out.a.lt
        have hl1 := set10 (b := w.heap.size + 1) HA2.out.low (by omega) (.slice a2 bs2.length k2) (.bool o2) (.int .i64 ct2) (.int .i64 co2) (.int .i64 cp2) (.slice c2 cd2.length d2) (.int .i64 l2) (.int .i64 lt2) (.int .i64 la2) (.slice b2 ld2.length r2)
        obtain ⟨Wf1, hWf1⟩ : ∃ W, W = (((((((((((((W2.setCell ⟨(w.heap.size + 1), 0, none⟩ (.slice a2 bs2.length k2)).setCell ⟨(w.heap.size + 1), 1, none⟩ (.bool o2)).setCell ⟨(w.heap.size + 1), 2, none⟩ (.int .i64 ct2)).setCell ⟨(w.heap.size + 1), 3, none⟩ (.int .i64 co2)).setCell ⟨(w.heap.size + 1), 4, none⟩ (.int .i64 cp2)).setCell ⟨(w.heap.size + 1), 5, none⟩ (.slice c2 cd2.length d2)).setCell ⟨(w.heap.size + 1), 6, none⟩ (.int .i64 l2)).setCell ⟨(w.heap.size + 1), 7, none⟩ (.int .i64 lt2)).setCell ⟨(w.heap.size + 1), 8, none⟩ (.int .i64 la2)).setCell ⟨(w.heap.size + 1), 9, none⟩ (.slice b2 ld2.length r2)).setCell ⟨(w.heap.size + 1 + 1), 0, none⟩ (.int .i64 t4)).setCell ⟨(w.heap.size + 1 + 1), 1, none⟩ (.int .i64 an4)).setCell ⟨(w.heap.size + 1 + 1), 2, none⟩ (.slice a5 dd.length k5)).drew := ⟨_, rfl⟩
        have hR1 : Bk Wf1 (w.heap.size + 1) 39 (dkC (.slice a2 bs2.length k2) o2 ct2 co2 cp2 (.slice c2 cd2.length d2) l2 lt2 la2 (.slice b2 ld2.length r2)) := by rw [hWf1]; exact Bk.drew' ((HA2.out.r.set10 (.slice a2 bs2.length k2) (.bool o2) (.int .i64 ct2) (.int .i64 co2) (.int .i64 cp2) (.slice c2 cd2.length d2) (.int .i64 l2) (.int .i64 lt2) (.int .i64 la2) (.slice b2 ld2.length r2)).keep (set3_heap (by omega) (.int .i64 t4) (.int .i64 an4) (.slice a5 dd.length k5)))
        have hC1 : Bk Wf1 (w.heap.size + 1 + 1) 35 [.int .i64 t4, .int .i64 an4, .slice a5 dd.length k5] := by rw [hWf1]; exact Bk.drew' (set3_bk (HA2.out.a.keep (set10_heap (W := W2) (b := w.heap.size + 1) (by omega) (.slice a2 bs2.length k2) (.bool o2) (.int .i64 ct2) (.int .i64 co2) (.int .i64 cp2) (.slice c2 cd2.length d2) (.int .i64 l2) (.int .i64 lt2) (.int .i64 la2) (.slice b2 ld2.length r2))) (.int .i64 t4) (.int .i64 an4) (.slice a5 dd.length k5))
        have hlf1 : Below w.heap.size w Wf1 := by rw [hWf1]; exact (set3 (b := w.heap.size + 1 + 1) hl1 (by omega) (.int .i64 t4) (.int .i64 an4) (.slice a5 dd.length k5)).drew
        have hk1 : ∀ b, b ≠ w.heap.size + 1 → b ≠ w.heap.size + 1 + 1 → Wf1.heap[b]? = W2.heap[b]? := fun b h1 h2 => by rw [hWf1, drewh, set3_heap h2, set10_heap h1]
        have hs1 : W2.heap.size ≤ Wf1.heap.size := by rw [hWf1, drews]; simp only [sc_size]; exact Nat.le_refl _
        have hYr : ∀ b, Y b → b < wr.heap.size := fun b hb => HXX.out b (.inl hb)
        have hdY1 : Dv Y Wf1 (.slice a2 bs2.length k2) (.slice c2 cd2.length d2) (.slice b2 ld2.length r2) es2 bs2 cd2 ld2 := (HA2.out.d.keep hs1 fun b hb hx => hk1 b (fun e => hx (.inr (by omega))) (fun e => hx (.inr (by omega)))).less fun b _ hb => .inl hb
        have hsl1 : Av Y (fun W => Sl eb W (.slice a5 dd.length k5) dd) Wf1 := own_av (own_keep hoA fun k' hk' => hk1 k' (by have := (hoA.lt k' hk').1; omega) (by have := (hoA.lt k' hk').1; omega)) hYr
        have HWf1 := Lib.hid hWf1
        clear hWf1 hl1 hk1 hs1 hYr
        obtain ⟨⟨p0, p1, p2, p3, p4, p5, p6, p7, p8, p9⟩, -⟩ := Bk.fd HA2.out.k
        obtain ⟨⟨y0, y1, y2, y3, y4, y5, y6, y7, y8, y9⟩, z0, z1, z2, z3, z4, z5, z6, z7, z8, z9⟩ := Bk.fd HA2.out.r
        obtain ⟨e0, e1, e2, x0, x1, x2⟩ : W2.cell? ⟨w.heap.size + 1 + 1, 0, none⟩ = some (.int .i64 0) ∧ W2.cell? ⟨w.heap.size + 1 + 1, 1, none⟩ = some (.int .i64 0) ∧ W2.cell? ⟨w.heap.size + 1 + 1, 2, none⟩ = some (.slice none 0 0) ∧ W2.frozen? ⟨w.heap.size + 1 + 1, 0, none⟩ = false ∧ W2.frozen? ⟨w.heap.size + 1 + 1, 1, none⟩ = false ∧ W2.frozen? ⟨w.heap.size + 1 + 1, 2, none⟩ = false := ⟨HA2.out.a.cell 0, HA2.out.a.cell 1, HA2.out.a.cell 2, HA2.out.a.frozen 0, HA2.out.a.frozen 1, HA2.out.a.frozen 2⟩
        obtain ⟨m0, m1, m2⟩ : W2.cell? ⟨bA, 0, none⟩ = some (.int .i64 t4) ∧ W2.cell? ⟨bA, 1, none⟩ = some (.int .i64 an4) ∧ W2.cell? ⟨bA, 2, none⟩ = some (.slice a5 dd.length k5) := ⟨hkA.cell 0, hkA.cell 1, hkA.cell 2⟩
        go_upto_region 6 with fail
        go_region
        rw [← HWf1.out]
        clear HWf1
        obtain ⟨⟨i0, i1, i2, i3, i4, i5, i6, i7, i8, i9⟩, -⟩ := Bk.fd hR1
        obtain ⟨j0, j1, j2⟩ : Wf1.cell? ⟨w.heap.size + 1 + 1, 0, none⟩ = some (.int .i64 t4) ∧ Wf1.cell? ⟨w.heap.size + 1 + 1, 1, none⟩ = some (.int .i64 an4) ∧ Wf1.cell? ⟨w.heap.size + 1 + 1, 2, none⟩ = some (.slice a5 dd.length k5) := ⟨hC1.cell 0, hC1.cell 1, hC1.cell 2⟩
        clear p0 p1 p2 p3 p4 p5 p6 p7 p8 p9 y0 y1 y2 y3 y4 y5 y6 y7 y8 y9 z0 z1 z2 z3 z4 z5 z6 z7 z8 z9 e0 e1 e2 x0 x1 x2 m0 m1 m2
        go_wp2_with fail
        exact bodyPost_ret (v := .tuple #[.agg #[.slice a2 bs2.length k2, .bool o2, .int .i64 ct2, .int .i64 co2, .int .i64 cp2, .slice c2 cd2.length d2, .int .i64 l2, .int .i64 lt2, .int .i64 la2, .slice b2 ld2.length r2], .agg #[.int .i64 t4, .int .i64 an4, .slice a5 dd.length k5], .bool true]) (by simp [results, Try.results13, go_sem, i0, i1, i2, i3, i4, i5, i6, i7, i8, i9, j0, j1, j2]) rfl (by
          rw [HRN3.out]
          exact ⟨_, _, _, es2, _, rfl, hdY1, hsl1, hlf1⟩)
      | _ :: _ :: _, hv, HTK, HZ => exact hv.elim
    · obtain rfl : k = 3 := by omega
      have hRN := HRN.out
      rw [Nat.sub_self, Dk.run_zero] at hRN
      obtain ⟨⟨p0, p1, p2, p3, p4, p5, p6, p7, p8, p9⟩, -⟩ := Bk.fd HR.out.k
      obtain ⟨⟨r0, r1, r2, r3, r4, r5, r6, r7, r8, r9⟩, z0, z1, z2, z3, z4, z5, z6, z7, z8, z9⟩ := Bk.fd HR.out.r
      obtain ⟨e0, e1, e2, x0, x1, x2⟩ : wr.cell? ⟨w.heap.size + 1 + 1, 0, none⟩ = some (.int .i64 0) ∧ wr.cell? ⟨w.heap.size + 1 + 1, 1, none⟩ = some (.int .i64 0) ∧ wr.cell? ⟨w.heap.size + 1 + 1, 2, none⟩ = some (.slice none 0 0) ∧ wr.frozen? ⟨w.heap.size + 1 + 1, 0, none⟩ = false ∧ wr.frozen? ⟨w.heap.size + 1 + 1, 1, none⟩ = false ∧ wr.frozen? ⟨w.heap.size + 1 + 1, 2, none⟩ = false := ⟨HR.out.a.cell 0, HR.out.a.cell 1, HR.out.a.cell 2, HR.out.a.frozen 0, HR.out.a.frozen 1, HR.out.a.frozen 2⟩
      have HRN3 := Lib.hid hRN
      clear hRN
      go_wp2_with fail
      have hlt' := HR.out.a.lt
      have hl1 := set10 (b := w.heap.size + 1) HR.out.low (by omega) (.slice aub es.length cub) (.bool o) (.int .i64 ct) (.int .i64 co) (.int .i64 cp) (.slice auc cd.length cuc) (.int .i64 l) (.int .i64 lt) (.int .i64 la) (.slice aul ld.length cul)
      have hl2 := set3 (b := w.heap.size + 1 + 1) hl1 (by omega) (.int .i64 0) (.int .i64 0) (.slice none 0 0)
      have hdY : Dv Y (((((((((((((wr.setCell ⟨(w.heap.size + 1), 0, none⟩ (.slice aub es.length cub)).setCell ⟨(w.heap.size + 1), 1, none⟩ (.bool o)).setCell ⟨(w.heap.size + 1), 2, none⟩ (.int .i64 ct)).setCell ⟨(w.heap.size + 1), 3, none⟩ (.int .i64 co)).setCell ⟨(w.heap.size + 1), 4, none⟩ (.int .i64 cp)).setCell ⟨(w.heap.size + 1), 5, none⟩ (.slice auc cd.length cuc)).setCell ⟨(w.heap.size + 1), 6, none⟩ (.int .i64 l)).setCell ⟨(w.heap.size + 1), 7, none⟩ (.int .i64 lt)).setCell ⟨(w.heap.size + 1), 8, none⟩ (.int .i64 la)).setCell ⟨(w.heap.size + 1), 9, none⟩ (.slice aul ld.length cul)).setCell ⟨w.heap.size + 1 + 1, 0, none⟩ (.int .i64 0)).setCell ⟨w.heap.size + 1 + 1, 1, none⟩ (.int .i64 0)).setCell ⟨w.heap.size + 1 + 1, 2, none⟩ (.slice none 0 0)) (.slice aub es.length cub) (.slice auc cd.length cuc) (.slice aul ld.length cul) es bs cd ld :=
        (HR.out.d.keep (by simp only [sc_size]; exact Nat.le_refl _) fun b hb hx => by
          have h1 : b ≠ w.heap.size + 1 + 1 := fun e => hx (.inr (by omega))
          have h2 : b ≠ w.heap.size + 1 := fun e => hx (.inr (by omega))
          rw [set3_heap h1, set10_heap h2]).less fun b _ hb => .inl hb
      exact bodyPost_ret (v := .tuple #[.agg #[.slice aub es.length cub, .bool o, .int .i64 ct, .int .i64 co, .int .i64 cp, .slice auc cd.length cuc, .int .i64 l, .int .i64 lt, .int .i64 la, .slice aul ld.length cul], .agg #[.int .i64 0, .int .i64 0, .slice none 0 0], .bool false]) (by simp [results, Try.results13, go_sem, r0, r1, r2, r3, r4, r5, r6, r7, r8, r9, e0, e1, e2]) rfl (by
        rw [HRN3.out]
        exact ⟨_, _, _, es, _, rfl, hdY, fun _ _ => Sl.nil _ _, hl2⟩)
end Go.Proofs.Yteeoonoccklhmaa
