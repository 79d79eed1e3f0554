/-
  The walk of the reference's Raise.
-/
import Derived.Test.YtehniblcodkmaaaIh
import Derived.Deep.DeepCutAuto
namespace Go.Proofs.Ytehniblcodkmaaa
open Go.RowKit

theorem Try.infoRLine : (Try.prog.info? 37).map (fun i => (i.zero, i.size, i.bytes)) = some (some (.agg #[.int .i64 0, .int .i64 0, .int .i64 0, .slice none 0 0]), 4, 48) := by kernel_rfl

/-- A new empty row, its number a letter. -/
theorem own_new {w : World} {base n s : Nat} {e : TypeId} (hn : n = w.heap.size) (hb : base ≤ n) : (w.alloc (.cells #[] e (0, 0))).ownsRow base e s (.slice (some ⟨n, 0, none⟩) 0 0) 0 [] := by
  subst hn
  exact World.ownsRow_made w #[] 0 hb (Nat.zero_le _) (by simp)

theorem RK.set3 {w W : World} {T1 T2 : TypeId} {m0 m1 m2 m3 m4 : Bool} {u : Value} {d t n : Int} {ux : Value} (h : RK w T1 T2 m0 m1 m2 m3 m4 u d t n ux W) (v : Value) :
    RK w T1 T2 m0 m1 m2 m3 m4 u d t n v (W.setCell ⟨w.heap.size + 1, 3, none⟩ v) :=
  ⟨h.low.setCell (by simp) _, fun e he => by
    rcases List.mem_cons.1 he with rfl | he
    · exact h.b0.far (by simp) _
    · rcases List.mem_cons.1 he with rfl | he
      · exact h.b1.set 3 v
      · rcases List.mem_cons.1 he with rfl | he
        · exact h.b2.far (by simp) _
        · cases he⟩

theorem rm_spare {α : Type} {s n : Nat} {enc : α → List Value} {W W' : World} {v v' : Value} {xs : List α} (h : Rm s enc W (some ⟨n, 0, none⟩) xs) (hs : Spares W W' v v') (hn : n < W.heap.size) (hv : v.ownBlock ≠ some n) : Rm s enc W' (some ⟨n, 0, none⟩) xs := by
  intro i hi
  obtain ⟨b, off, ha, hlt, hc⟩ := h i hi
  simp only [Option.some.injEq, Addr.mk.injEq, and_true] at ha
  obtain ⟨rfl, rfl⟩ := ha
  have hb := (hs n hn hv).1
  refine ⟨n, 0, rfl, ?_, fun j hj => by rw [World.cell?_of_block (a := ⟨n, 0 + i * s + j, none⟩) hb]; exact hc j hj⟩
  rw [Array.getElem?_eq_getElem hlt] at hb
  exact (Array.getElem?_eq_some_iff.1 hb).1

/-- What the statement that appends leaves. -/
def RG (w : World) (m0 m1 m2 m3 m4 : Bool) (d t n : Int) (l : List Iq.Ln) (W : World) : Prop :=
  ∃ v ux es, RK w 25 37 m0 m1 m2 m3 m4 v d t n ux W ∧ Lo W (w.heap.size + 1 + 1 + 1) 37 v es l ∧ ∀ e ∈ es, Far (w.heap.size + 1 + 1) e

set_option maxRecDepth 20000 in
set_option maxHeartbeats 3200000 in
theorem rraise_w {m0 m1 m2 m3 m4 : Bool} {u vx : Value} {ls : List Iq.Ln} {x : Iq.Ln} {w : World} (h : Lp w u ls) (hx : Lv w vx x) :
    Calls Try.prog 26 #[.agg #[.bool m0, .bool m1, .bool m2, .bool m3, .bool m4, u], vx] w (RetSt w (Iq.raise ([m0, m1, m2, m3, m4], ls) x)) := by
  obtain ⟨ux, rfl, hxs⟩ := hx
  obtain ⟨d, t, n, xs⟩ := x
  simp only at hxs ⊢
  have HLX : Hid (∀ W, Below w.heap.size w W → Lv W (.agg #[.int .i64 d, .int .i64 t, .int .i64 n, ux]) (d, t, n, xs)) := fun W hW => ⟨ux, rfl, hxs.below hW (Nat.le_refl _)⟩
  have HLP : Hid (∀ W, Below w.heap.size w W → Lp W u ls) := fun W hW => h.below hW (Nat.le_refl _)
  have HV : Hid (∀ W, Below w.heap.size w W → Calls Try.prog 12 #[.agg #[.bool m0, .bool m1, .bool m2, .bool m3, .bool m4, u]] W fun e w' => e = .returned (.bool (Iq.valid ([m0, m1, m2, m3, m4], ls))) ∧ Below W.heap.size W w') := fun W hW => rvalid_w (HLP.out W hW)
  have HP : Hid (∀ W, Below w.heap.size w W → Calls Try.prog 19 #[.agg #[.int .i64 d, .int .i64 t, .int .i64 n, ux]] W fun e w' => e = .returned (.bool (Iq.proper (d, t, n, xs))) ∧ Below W.heap.size W w') := fun W hW => rproper_w (HLX.out W hW)
  have HR : Hid (∀ W, Below w.heap.size w W → Calls Try.prog 34 #[u, .agg #[.int .i64 d, .int .i64 t, .int .i64 n, ux]] W fun e w' => e = .returned (.bool (Iq.pend ls (d, t, n, xs))) ∧ Below W.heap.size W w') := fun W hW => rpending_w (HLP.out W hW) (HLX.out W hW)
  obtain ⟨es, hS, hRR⟩ := h
  obtain ⟨a, cap, rfl, hc, hcm, hna, hrm⟩ := hS
  obtain ⟨a2, c2, rfl, hc2, hcm2, hn2, hrx⟩ := id hxs
  have hle : es.length = ls.length := hRR.1
  have HRR := Lib.hid hRR
  have HRM := Lib.hid hrm
  have HRX := Lib.hid hrx
  clear hxs hRR hrm hrx
  unfold maxLen at hcm hcm2
  have HST := Lib.hid (RK.start (w := w) (T1 := 25) (T2 := 37) (m0 := m0) (m1 := m1) (m2 := m2) (m3 := m3) (m4 := m4) (u := .slice a es.length cap) (d := d) (t := t) (n := n) (ux := .slice a2 xs.length c2))
  generalize hr : Iq.raise ([m0, m1, m2, m3, m4], ls) (d, t, n, xs) = r
  unfold Iq.raise at hr
  cases hv : Iq.valid ([m0, m1, m2, m3, m4], ls) with
  | false =>
    rw [hv] at HV hr
    simp only [if_pos] at hr
    subst hr
    clear hv HP HR HLX HLP
    have HLE := Lib.hid hle
    clear hle
    go_enter Try.func26, Try.ntmps26
    go_wp2_with (go_at_call 12; refine (HV.out _ HST.out.low).mono ?_; rintro e w1 ⟨rfl, hb1⟩; have hk1 := HST.out.step hb1; obtain ⟨p0, p1, p2, p3, p4, p5, z0, z1, z2, z3, z4, z5⟩ := hk1.b2.box)
    refine bodyPost_ret (v := .tuple #[.agg #[.bool false, .bool false, .bool false, .bool false, .bool false, .slice none 0 0], .int .i64 1]) (by simp [results, Try.results26, go_sem, p0, p1, p2, p3, p4, p5]) rfl (RetSt.zero ?_)
    exact set6 hk1.low (by omega) _ _ _ _ _ _
  | true =>
    have hml : es.length ≤ 32 := by rw [hle]; exact (Iq.valid_iff.1 hv).2.1
    rw [hv] at HV hr
    simp only [Bool.true_eq_false, if_false] at hr
    cases hp : Iq.proper (d, t, n, xs) with
    | false =>
      rw [hp] at HP hr
      simp only [if_pos] at hr
      subst hr
      clear hv HR HLX HLP hp hml
      have HLE := Lib.hid hle
      clear hle
      go_enter Try.func26, Try.ntmps26
      go_wp2_with (first
        | (go_at_call 12; refine (HV.out _ HST.out.low).mono ?_; rintro e w1 ⟨rfl, hb1⟩; have hk1 := HST.out.step hb1; obtain ⟨x0, x1, x2, x3, -⟩ := hk1.b1.box4)
        | (go_at_call 19; refine (HP.out _ hk1.low).mono ?_; rintro e w2 ⟨rfl, hb2⟩; have hk2 := hk1.step hb2; obtain ⟨p0, p1, p2, p3, p4, p5, z0, z1, z2, z3, z4, z5⟩ := hk2.b2.box))
      refine bodyPost_ret (v := .tuple #[.agg #[.bool false, .bool false, .bool false, .bool false, .bool false, .slice none 0 0], .int .i64 2]) (by simp [results, Try.results26, go_sem, p0, p1, p2, p3, p4, p5]) rfl (RetSt.zero ?_)
      exact set6 hk2.low (by omega) _ _ _ _ _ _
    | true =>
      have hdx : xs.length ≤ 1000000 := by have := (Iq.proper_iff.1 hp).2.2.2; simp only at this; omega
      rw [hp] at HP hr
      simp only [Bool.true_eq_false, if_false] at hr
      cases hpd : Iq.pend ls (d, t, n, xs) with
      | true =>
        rw [hpd] at HR hr
        simp only [if_pos] at hr
        subst hr
        clear hv HLX HLP hp hml hdx hpd
        have HLE := Lib.hid hle
        clear hle
        go_enter Try.func26, Try.ntmps26
        go_wp2_with (first
          | (go_at_call 12; refine (HV.out _ HST.out.low).mono ?_; rintro e w1 ⟨rfl, hb1⟩; have hk1 := HST.out.step hb1; obtain ⟨x0, x1, x2, x3, -⟩ := hk1.b1.box4)
          | (go_at_call 19; refine (HP.out _ hk1.low).mono ?_; rintro e w2 ⟨rfl, hb2⟩; have hk2 := hk1.step hb2; obtain ⟨x02, x12, x22, x32, -⟩ := hk2.b1.box4; have y52 := hk2.b0.box.p5)
          | (go_at_call 34; refine (HR.out _ hk2.low).mono ?_; rintro e w3 ⟨rfl, hb3⟩; have hk3 := hk2.step hb3; obtain ⟨p0, p1, p2, p3, p4, p5, z0, z1, z2, z3, z4, z5⟩ := hk3.b2.box))
        refine bodyPost_ret (v := .tuple #[.agg #[.bool false, .bool false, .bool false, .bool false, .bool false, .slice none 0 0], .int .i64 19]) (by simp [results, Try.results26, go_sem, p0, p1, p2, p3, p4, p5]) rfl (RetSt.zero ?_)
        exact set6 hk3.low (by omega) _ _ _ _ _ _
      | false =>
        rw [hpd] at HR hr
        simp only [Bool.false_eq_true, if_false] at hr
        by_cases h32 : ls.length = 32
        · rw [if_pos h32] at hr
          subst hr
          have f1 : (32 : Int) ≤ (es.length : Int) := by omega
          have H32 := Lib.hid h32
          clear hv HLX HLP hp hml hdx hpd h32
          have HLE := Lib.hid hle
          clear hle
          go_enter Try.func26, Try.ntmps26
          go_wp2_with (first
            | (go_at_call 12; refine (HV.out _ HST.out.low).mono ?_; rintro e w1 ⟨rfl, hb1⟩; have hk1 := HST.out.step hb1; obtain ⟨x0, x1, x2, x3, -⟩ := hk1.b1.box4)
            | (go_at_call 19; refine (HP.out _ hk1.low).mono ?_; rintro e w2 ⟨rfl, hb2⟩; have hk2 := hk1.step hb2; obtain ⟨x02, x12, x22, x32, -⟩ := hk2.b1.box4; have y52 := hk2.b0.box.p5)
            | (go_at_call 34; refine (HR.out _ hk2.low).mono ?_; rintro e w3 ⟨rfl, hb3⟩; have hk3 := hk2.step hb3; obtain ⟨p0, p1, p2, p3, p4, p5, z0, z1, z2, z3, z4, z5⟩ := hk3.b2.box; have y53 := hk3.b0.box.p5))
          refine bodyPost_ret (v := .tuple #[.agg #[.bool false, .bool false, .bool false, .bool false, .bool false, .slice none 0 0], .int .i64 6]) (by simp [results, Try.results26, go_sem, p0, p1, p2, p3, p4, p5]) rfl (RetSt.zero ?_)
          exact set6 hk3.low (by omega) _ _ _ _ _ _
        · rw [if_neg h32] at hr
          subst hr
          have f1 : (es.length : Int) < 32 := by omega
          have hn32 : es.length < 32 := by omega
          clear hv HLP hp hml hpd h32
          have HLE := Lib.hid hle
          clear hle
          obtain ⟨i0, hi, hz0, hz1, hz2⟩ := info_parts Try.infoRLine
          obtain ⟨i5, hi5, hz50, hz51, hz52⟩ := info_parts Try.info5
          go_enter Try.func26, Try.ntmps26
          go_wp2_with (first
            | (go_at_call 12; refine (HV.out _ HST.out.low).mono ?_; rintro e w1 ⟨rfl, hb1⟩; have hk1 := HST.out.step hb1; obtain ⟨x0, x1, x2, x3, -⟩ := hk1.b1.box4)
            | (go_at_call 19; refine (HP.out _ hk1.low).mono ?_; rintro e w2 ⟨rfl, hb2⟩; have hk2 := hk1.step hb2; obtain ⟨x02, x12, x22, x32, -⟩ := hk2.b1.box4; have y52 := hk2.b0.box.p5)
            | (go_at_call 34; refine (HR.out _ hk2.low).mono ?_; rintro e w3 ⟨rfl, hb3⟩; have hk3 := hk2.step hb3; have y53 := hk3.b0.box.p5; have x33 := hk3.b1.box4.p3; have hs31 := hk3.b0.lt; have hs32 := hk3.b1.lt; have hs33 := hk3.b2.lt)
            | (at_builtin; refine wpList_append_rd eb (fun _ => rfl) rfl (.tmp 28) (.tmp 30) 35 rfl w3.heap.size 5 i5 (.int .u8 0) 1 Try.underlying35 hi5 hz50 hz51 hz52 rfl _ 0 [] rfl (own_new (s := 1) rfl (Nat.le_refl _)) a2 c2 xs xs.length rfl rfl hn2 hc2 (HRX.out.below (hk3.low.alloc hk3.low.size _) (Nat.le_refl _)) (by unfold maxLen; omega) (by omega) (by simp) ?_; intro v4 w4 ho4 hs4 hb4; obtain ⟨a4, c4, rfl⟩ := own_slice ho4; have hb34 := (low_alloc w3 (.cells #[] 5 (0, 0))).trans hb4; have hk4 := hk3.step hb34; have z34 := hk4.b1.box4.z3; have x34 := hk4.b1.box4.p3))
          have ho4' : w4.ownsRow w3.heap.size 5 1 (.slice a4 xs.length c4) xs.length (xs.map eb) := by simpa using ho4
          have hk5 := hk4.set3 (.slice a4 xs.length c4)
          have hX5 : LnR (w4.setCell ⟨w.heap.size + 1, 3, none⟩ (.slice a4 xs.length c4)) (d, t, n, a4, xs.length, c4) (d, t, n, xs) :=
            ⟨rfl, rfl, rfl, Sl.ofOwn (own_keep ho4' fun k hk => Below.heap_setCell _ _ _ _ (by have := (ho4'.lt k hk).1; have := hk3.b1.lt; simp; omega))⟩
          have HXF : Hid (∀ g, g < w3.heap.size → Far g (d, t, n, a4, xs.length, c4)) := fun g hg b off ha _ e => by
            have := (ho4'.lt b (by simp only at ha; rw [ha]; rfl)).1
            omega
          have HS3 : Hid (w.heap.size + 1 + 1 < w3.heap.size) := hk3.b2.lt
          have hl5 := hk5.low
          generalize w4.setCell ⟨w.heap.size + 1, 3, none⟩ (.slice a4 xs.length c4) = W5 at *
          have HX5 := Lib.hid hX5
          have HK5 : Hid (∀ W, Below W5.heap.size W5 W → RK w 25 37 m0 m1 m2 m3 m4 (.slice a es.length cap) d t n (.slice a4 xs.length c4) W) := fun W hW => hk5.step hW
          have HRM5 : Hid (∀ W, Below W5.heap.size W5 W → Rm 4 el W a es) := fun W hW => (HRM.out.below hl5 (Nat.le_refl _)).below hW (Nat.le_refl _)
          have HEF : Hid (∀ g, w.heap.size ≤ g → ∀ e ∈ es, Far g e) := fun g hg e he => by
            obtain ⟨i, hi, rfl⟩ := List.getElem_of_mem he
            exact Far.of_low (HRR.out.2 i hi (by have := HRR.out.1; omega)) hg
          have HLO : Hid (∀ W v, Below W5.heap.size W5 W → W.ownsRow W5.heap.size 37 4 v es.length (es.flatMap el) → Lo W W5.heap.size 37 v es ls) := fun W v hW ho =>
            ⟨ho, (HRR.out.below hl5 (Nat.le_refl _)).below hW (Nat.le_refl _), fun g hg => HEF.out g (by have := (ho.lt g hg).1; have := hl5.size; omega)⟩
          have HSN : Hid (∀ X W v v', Below W5.heap.size W5 X → Lo X W5.heap.size 37 v es ls → W.ownsRow W5.heap.size 37 4 v' (es.length + 1) ((es ++ [(d, t, n, a4, xs.length, c4)]).flatMap el) → Spares X W v v' → Below W5.heap.size X W →
              RK w 25 37 m0 m1 m2 m3 m4 (.slice a es.length cap) d t n (.slice a4 xs.length c4) W ∧ RG w m0 m1 m2 m3 m4 d t n (ls ++ [(d, t, n, xs)]) (W.setCell ⟨w.heap.size, 5, none⟩ v')) := fun X W v v' hX hlo ho hs hb => by
            have hWW : Below W5.heap.size W5 W := hX.trans hb
            have hkW := HK5.out W hWW
            have h1 := hlo.snoc (HX5.out.below hX (Nat.le_refl _)) (fun g hg => Far.of_low HX5.out (hlo.own.lt g hg).1) ho hs
            have hfe : ∀ g, w.heap.size ≤ g → g < w3.heap.size → ∀ e ∈ es ++ [(d, t, n, a4, xs.length, c4)], Far g e := fun g h1 h2 e he => by
              rcases List.mem_append.1 he with he | he
              · exact HEF.out g h1 e he
              · simp at he; subst he; exact HXF.out g h2
            have hsz := hl5.size
            have hs3 := HS3.out
            have hz5 := hk5.b2.lt
            refine ⟨hkW, v', .slice a4 xs.length c4, _, hkW.set5 v', ?_, hfe _ (by omega) hs3⟩
            have h2 := h1.other (w' := W.setCell ⟨w.heap.size, 5, none⟩ v') (g0 := w.heap.size) (fun e => by have := (h1.own.lt _ e).1; have := hk5.b0.lt; omega) (hfe _ (Nat.le_refl _) (by omega)) fun b hb => Below.heap_setCell _ _ _ _ hb
            refine ⟨⟨h2.own.1, h2.own.2.elim .inl ?_⟩, h2.rd, h2.far⟩
            rintro ⟨g, cap, cur, q1, q2, q3⟩
            exact .inr ⟨g, cap, cur, q1, by omega, q3⟩
          have hy5 := hk5.b0.box.p5
          have hs51 := hk5.b0.lt
          have hs52 := hk5.b1.lt
          obtain ⟨x0, x1, x2, x3, -⟩ := hk5.b1.box4
          clear ho4 ho4' hs4 hb4 hb34 hk4 z34 x34 hk3 hk2 hk1 hb1 hb2 hb3 y52 y53 x02 x12 x22 x32 x33 hs31 hs32 hs33 hk5 hX5 HV HP HR HST HRX HLX hl5
          go_cut [] (fun W => RG w m0 m1 m2 m3 m4 d t n (ls ++ [(d, t, n, xs)]) W)
          case first =>
            go_region_law ((first
              | (refine step_append_m el el_len (by omega) el_one (by rfl) (.tmp 33) (.tmp 35) 23 (by rfl) W5.heap.size 37 i0 (.agg #[.int .i64 0, .int .i64 0, .int .i64 0, .slice none 0 0]) 48 Try.underlying23 hi hz0 hz1 hz2 rfl (.slice (some ⟨W5.heap.size, 0, none⟩) 0 0) 0 [] (by rfl) (own_new rfl (Nat.le_refl _)) a cap es es.length (by rfl) rfl hna hc (HRM5.out _ ((low_drew W5).alloc (Nat.le_refl _) _)) (by unfold maxLen; omega) (by omega) (by first | (simp; done) | (simp; omega)) ?_; intro v6 w6 ho6 hs6 hb6; rw [Nat.zero_add, List.nil_append] at ho6; obtain ⟨a6, c6, rfl⟩ := own_slice4 ho6; have hl6 : Below W5.heap.size W5 w6 := ((low_drew W5).alloc (Nat.le_refl _) _).trans hb6; have hk6 := HK5.out _ hl6; have hlo6 := HLO.out w6 _ hl6 ho6; have y56 := hk6.b0.box.p5; have hs61 := hk6.b0.lt; have hs62 := hk6.b1.lt; obtain ⟨x06, x16, x26, x36, -⟩ := hk6.b1.box4; have tokA := True.intro)
              | (refine step_append_m el el_len (by omega) el_one (by rfl) (.tmp 33) (.tmp 35) 23 (by rfl) W5.heap.size 37 i0 (.agg #[.int .i64 0, .int .i64 0, .int .i64 0, .slice none 0 0]) 48 Try.underlying23 hi hz0 hz1 hz2 rfl (.slice (some ⟨W5.heap.size, 0, none⟩) 0 0) 0 [] (by rfl) ((own_new rfl (Nat.le_refl _)).alloc _) a cap es es.length (by rfl) rfl hna hc (HRM5.out _ (((low_drew W5).alloc (Nat.le_refl _) _).alloc (by simp) _)) (by unfold maxLen; omega) (by omega) (by first | (simp; done) | (simp; omega)) ?_; intro v6 w6 ho6 hs6 hb6; rw [Nat.zero_add, List.nil_append] at ho6; obtain ⟨a6, c6, rfl⟩ := own_slice4 ho6; have hl6 : Below W5.heap.size W5 w6 := (((low_drew W5).alloc (Nat.le_refl _) _).alloc (by simp) _).trans hb6; have hk6 := HK5.out _ hl6; have hlo6 := HLO.out w6 _ hl6 ho6; have y56 := hk6.b0.box.p5; have hs61 := hk6.b0.lt; have hs62 := hk6.b1.lt; obtain ⟨x06, x16, x26, x36, -⟩ := hk6.b1.box4; have tokB := True.intro)
              | (refine step_append_m el el_len (by omega) el_one (by rfl) (.tmp 33) (.tmp 35) 23 (by rfl) W5.heap.size 37 i0 (.agg #[.int .i64 0, .int .i64 0, .int .i64 0, .slice none 0 0]) 48 Try.underlying23 hi hz0 hz1 hz2 rfl (.slice (some ⟨W5.heap.size + 1, 0, none⟩) 0 0) 0 [] (by rfl) (own_new (w := W5.alloc (.cells #[.int .i64 d, .int .i64 t, .int .i64 n, .slice a4 xs.length c4] 37 (0, 0))) (by simp) (by omega)) a cap es es.length (by rfl) rfl hna hc (HRM5.out _ (((low_drew W5).alloc (Nat.le_refl _) _).alloc (by simp) _)) (by unfold maxLen; omega) (by omega) (by first | (simp; done) | (simp; omega)) ?_; intro v6 w6 ho6 hs6 hb6; rw [Nat.zero_add, List.nil_append] at ho6; obtain ⟨a6, c6, rfl⟩ := own_slice4 ho6; have hl6 : Below W5.heap.size W5 w6 := (((low_drew W5).alloc (Nat.le_refl _) _).alloc (by simp) _).trans hb6; have hk6 := HK5.out _ hl6; have hlo6 := HLO.out w6 _ hl6 ho6; have y56 := hk6.b0.box.p5; have hs61 := hk6.b0.lt; have hs62 := hk6.b1.lt; obtain ⟨x06, x16, x26, x36, -⟩ := hk6.b1.box4; have tokC := True.intro)
              | (have _t := tokA; refine step_append_m el el_len (by omega) el_one (by rfl) (.tmp 36) (.tmp 38) 23 (by rfl) W5.heap.size 37 i0 (.agg #[.int .i64 0, .int .i64 0, .int .i64 0, .slice none 0 0]) 48 Try.underlying23 hi hz0 hz1 hz2 rfl _ es.length es (by rfl) (hlo6.own.alloc _) (some ⟨w6.heap.size, 0, none⟩) 1 [(d, t, n, a4, xs.length, c4)] 1 (by rfl) rfl (by simp) (by omega) (Rm.one (enc := el) w6 (d, t, n, a4, xs.length, c4) _ _ rfl) (by unfold maxLen; omega) (by omega) (by have := hl6.size; simp; omega) ?_; intro v7 w7 ho7 hs7 hb7; obtain ⟨a7, c7, rfl⟩ := own_slice4 ho7; obtain ⟨hk7, hrg⟩ := HSN.out _ w7 _ _ (hl6.alloc hl6.size _) (hlo6.low (low_alloc _ _)) ho7 hs7 hb7; have y57 := hk7.b0.box.p5; have z57 := hk7.b0.box.z5; obtain ⟨x07, x17, x27, x37, -⟩ := hk7.b1.box4)
              | (have _t := tokB; refine step_append_m el el_len (by omega) el_one (by rfl) (.tmp 36) (.tmp 38) 23 (by rfl) W5.heap.size 37 i0 (.agg #[.int .i64 0, .int .i64 0, .int .i64 0, .slice none 0 0]) 48 Try.underlying23 hi hz0 hz1 hz2 rfl _ es.length es (by rfl) hlo6.own (some ⟨W5.heap.size + 1, 0, none⟩) 1 [(d, t, n, a4, xs.length, c4)] 1 (by rfl) rfl (by simp) (by omega) (rm_spare (Rm.one (s := 4) (enc := el) (W5.alloc (.cells #[] 37 (0, 0))) (d, t, n, a4, xs.length, c4) 37 (W5.heap.size + 1) (by simp)).drew hs6 (by simp) (by simp [Value.ownBlock])) (by unfold maxLen; omega) (by omega) hl6.size ?_; intro v7 w7 ho7 hs7 hb7; obtain ⟨a7, c7, rfl⟩ := own_slice4 ho7; obtain ⟨hk7, hrg⟩ := HSN.out _ w7 _ _ hl6 hlo6 ho7 hs7 hb7; have y57 := hk7.b0.box.p5; have z57 := hk7.b0.box.z5; obtain ⟨x07, x17, x27, x37, -⟩ := hk7.b1.box4)
              | (have _t := tokC; refine step_append_m el el_len (by omega) el_one (by rfl) (.tmp 36) (.tmp 38) 23 (by rfl) W5.heap.size 37 i0 (.agg #[.int .i64 0, .int .i64 0, .int .i64 0, .slice none 0 0]) 48 Try.underlying23 hi hz0 hz1 hz2 rfl _ es.length es (by rfl) hlo6.own (some ⟨W5.heap.size, 0, none⟩) 1 [(d, t, n, a4, xs.length, c4)] 1 (by rfl) rfl (by simp) (by omega) (rm_spare ((Rm.one (s := 4) (enc := el) W5 (d, t, n, a4, xs.length, c4) 37 W5.heap.size rfl).below (low_alloc _ (.cells #[] 37 (0, 0))) (Nat.le_refl _)).drew hs6 (by simp; omega) (by simp [Value.ownBlock])) (by unfold maxLen; omega) (by omega) hl6.size ?_; intro v7 w7 ho7 hs7 hb7; obtain ⟨a7, c7, rfl⟩ := own_slice4 ho7; obtain ⟨hk7, hrg⟩ := HSN.out _ w7 _ _ hl6 hlo6 ho7 hs7 hb7; have y57 := hk7.b0.box.p5; have z57 := hk7.b0.box.z5; obtain ⟨x07, x17, x27, x37, -⟩ := hk7.b1.box4)))
            all_goals (go_wp2_with fail; go_meet; exact hrg)
          case rest =>
            obtain ⟨v9, ux9, es9, hk9, ho9, hf9⟩ := hcut
            obtain ⟨a9, c9, rfl, -⟩ := lo_slice ho9
            have hlow := hk9.low
            have hs9 := hk9.b2.lt
            obtain ⟨s0, s1, s2, s3, s4, s5, -⟩ := hk9.b0.box
            obtain ⟨p0, p1, p2, p3, p4, p5, z0, z1, z2, z3, z4, z5⟩ := hk9.b2.box
            have HFIN : Hid (∀ W9, (∀ b, b ≠ w.heap.size + 1 + 1 → W9.heap[b]? = wc.heap[b]?) → Lp W9 (.slice a9 (ls ++ [(d, t, n, xs)]).length c9) (ls ++ [(d, t, n, xs)])) := fun W9 hk =>
              (ho9.other (w' := W9) (g0 := w.heap.size + 1 + 1) (fun e => by have := (ho9.own.lt _ e).1; omega) hf9 hk).lp
            clear ho9 hf9 hk9
            generalize (ls ++ [(d, t, n, xs)]).length = len9 at *
            go_wp2
            refine bodyPost_ret (v := .tuple #[.agg #[.bool m0, .bool m1, .bool m2, .bool m3, .bool m4, .slice a9 len9 c9], .int .i64 0]) (by simp [results, Try.results26, go_sem, p0, p1, p2, p3, p4, p5]) rfl ⟨m0, m1, m2, m3, m4, _, rfl, rfl, HFIN.out _ fun b hb => set6_heap hb _ _ _ _ _ _, set6 hlow (by omega) _ _ _ _ _ _⟩
end Go.Proofs.Ytehniblcodkmaaa
