/-
  The walks of frames.Set and frames.Copy.
-/
import Derived.Test.YtkgheilaleekdaaOps
import Derived.Test.YtkgheilaleekdaaClr
namespace Go.Proofs.Ytkgheilaleekdaa
open Go.RowKit

theorem zero5 : ∀ w, (zeroValue 5).run Try.prog w = .ok (.int .u8 0) w := fun _ => by kernel_rfl

theorem grown_cell {w w' : World} {g : Nat} (h : w.grownBy w' (some g)) {p : Addr} (hp : p.block < w.heap.size) (hne : p.block ≠ g) : w'.cell? p = w.cell? p :=
  World.cell?_of_block (h.block p.block hp (fun e => hne (by injection e)))

theorem grown_frozen {w w' : World} {g : Nat} (h : w.grownBy w' (some g)) {p : Addr} (hp : p.block < w.heap.size) (hne : p.block ≠ g) : w'.frozen? p = w.frozen? p :=
  World.frozen?_of_block (h.block p.block hp (fun e => hne (by injection e)))

theorem put_put (p b : List UInt8) (h : p.length = 128) (hb : b.length ≤ 128) : Fr.put (Fr.put p 0 b) b.length (List.replicate (128 - b.length) 0) = b ++ List.replicate (128 - b.length) 0 := by
  unfold Fr.put
  simp only [List.take_zero, List.nil_append, Nat.zero_add]
  rw [List.take_left, List.drop_eq_nil_of_le (by simp; omega), List.append_nil]

set_option maxHeartbeats 800000 in
theorem fset_err {v vb : Value} {ps : List (List UInt8)} {bs : List UInt8} {w : World} (f : Int) (hv : Pg w v ps) (hb : Sl eb w vb bs) (hc : Fr.chk ps f 0 bs.length ≠ 0) :
    Calls Try.prog 20 #[.agg #[v], .int .i64 f, vb] w fun e w' => e = .returned (.tuple #[.agg #[.slice none 0 0], .int .i64 (Fr.chk ps f 0 bs.length)]) ∧ Below w.heap.size w w' := by
  have HC : Hid (∀ w', Below w.heap.size w w' → Calls Try.prog 32 #[.agg #[v], .int .i64 f, .int .i64 0, .int .i64 bs.length] w' fun e w'' => e = .returned (.int .i64 (Fr.chk ps f 0 bs.length)) ∧ Below w'.heap.size w' w'') := fun w' hb => check_w f 0 bs.length (hv.below hb (Nat.le_refl _))
  have hB : Below w.heap.size w ((w.alloc (.cells #[v] 30 (0, 0))).alloc (.cells #[.slice none 0 0] 30 (0, 0))) := ((Below.refl _ _).alloc (Nat.le_refl _) _).alloc (by simp) _
  have hne : ((Fr.chk ps f 0 bs.length) != 0) = true := by rw [bne_iff_ne]; exact hc
  generalize Fr.chk ps f 0 bs.length = c at *
  obtain ⟨a, cap, rfl, -⟩ := hv.open
  obtain ⟨ab, cb, rfl, -⟩ := hb
  clear hc hv
  go_enter Try.func20, Try.ntmps20
  go_wp2_with (go_at_call 32; refine (HC.out _ hB).mono ?_; rintro e w1 ⟨rfl, hb1⟩; obtain ⟨hbw1, k1, k2⟩ := boxes2 hb1; have z2 := (hb1.frozen (p := ⟨w.heap.size + 1, 0, none⟩) (by simp)).trans (frozen_of_row _ _ 0 #[.slice none 0 0] 30 (Bk.newAt _ _ [.slice none 0 0] (by simp))))
  exact bodyPost_ret (v := .tuple #[.agg #[.slice none 0 0], .int .i64 c]) (by simp [results, Try.results20, go_sem, k2]) rfl ⟨rfl, hbw1.setCell (by simp) _⟩

set_option maxHeartbeats 1600000 in
theorem fset_ok {v vb : Value} {ps : List (List UInt8)} {bs : List UInt8} {w : World} (f : Int) (hv : Pg w v ps) (hb : Sl eb w vb bs) (hc : Fr.chk ps f 0 bs.length = 0) :
    Calls Try.prog 20 #[.agg #[v], .int .i64 f, vb] w fun e w' => ∃ g h, e = .returned (.tuple #[.agg #[.slice (some ⟨h, 0, none⟩) 96 96], .int .i64 0]) ∧ w.heap.size ≤ g ∧ w.heap.size ≤ h ∧ g ≠ h ∧ Fm w' g h (ps.set f.toNat (bs ++ List.replicate (128 - bs.length) 0)) ∧ Below w.heap.size w w' := by
  have HV := Lib.hid hv
  have HC : Hid (∀ w', Below w.heap.size w w' → Calls Try.prog 32 #[.agg #[v], .int .i64 f, .int .i64 0, .int .i64 bs.length] w' fun e w'' => e = .returned (.int .i64 0) ∧ Below w'.heap.size w' w'') := fun w' hb => by
    have := check_w f 0 bs.length (hv.below hb (Nat.le_refl _))
    rw [hc] at this; exact this
  have hB : Below w.heap.size w ((w.alloc (.cells #[v] 30 (0, 0))).alloc (.cells #[.slice none 0 0] 30 (0, 0))) := ((Below.refl _ _).alloc (Nat.le_refl _) _).alloc (by simp) _
  obtain ⟨hva, hok⟩ := Fr.chk_zero hc
  obtain ⟨hl, hpl⟩ := Fr.valid_iff.1 hva
  obtain ⟨r1, r2, -, -, r5, r6⟩ := Fr.okR_iff.1 hok
  obtain ⟨F, rfl⟩ := Int.eq_ofNat_of_zero_le r1
  have HD := Lib.hid (fun w' (hb : Below w.heap.size w w') => copied_w (hv.below hb (Nat.le_refl _)) hva)
  have HPF : Hid ((ps.getD F []).length = 128) := by
    have hF : F < ps.length := by omega
    show _ = _
    rw [show ps.getD F [] = ps[F] by simp [List.getD, hF]]; exact hpl F hF
  obtain ⟨a, cap, rfl, hcc, hcm, hna, -⟩ := hv.open
  obtain ⟨ab, cb, rfl, hbc, hbm, hbn, hbr⟩ := hb
  have hlb : bs.length ≤ 128 := by omega
  rw [hl] at HC HD hB ⊢
  unfold maxLen at hcm hbm
  have HL := Lib.hid hl
  clear hc hva hok hpl hl HV hv
  simp only [Int.toNat_natCast] at *
  have f1 : (0 : Int) ≤ (F : Int) := by omega
  have f2 : (F : Int) < 96 := by omega
  have f3 : (0 : Int) ≤ (bs.length : Int) := by omega
  have f4 : (bs.length : Int) ≤ 128 := by omega
  go_enter Try.func20, Try.ntmps20
  go_wp2_with (first
    | (go_at_call 32; refine (HC.out _ hB).mono ?_; rintro e w1 ⟨rfl, hb1⟩; obtain ⟨hbw1, k1, k2⟩ := boxes2 hb1; have B1 : Bk w1 (w.heap.size + 1) 30 [.slice none 0 0] := ((Bk.newAt _ _ [_] (by simp)).below hb1 (by simp)))
    | (go_at_call 33; refine (HD.out w1 hbw1).mono ?_; rintro e w2 ⟨g, h, rfl, hg, hh, hgh, hF, hb2⟩))
  have hs1 : w.heap.size + 2 ≤ w1.heap.size := by have := hb1.size; simp at this; omega
  have hs2 := hb2.size
  have hgl := hF.lt
  have hb0 : Below w2.heap.size w2 (w2.alloc (.cells #[.slice (some ⟨h, 0, none⟩) 96 96] 30 (0, 0))) := (Below.refl _ _).alloc (Nat.le_refl _) _
  have hbwo := (hbw1.trans (hb2.mono hbw1.size)).trans (hb0.mono (Nat.le_trans hbw1.size hs2))
  have B3 : Bk (w2.alloc (.cells #[.slice (some ⟨h, 0, none⟩) 96 96] 30 (0, 0))) w2.heap.size 30 [.slice (some ⟨h, 0, none⟩) 96 96] := Bk.newAt w2 _ [_] rfl
  have hF0 := hF.below hb0 (Nat.le_refl _)
  have B10 := (B1.below hb2 B1.lt).below hb0 (by omega)
  generalize hwo : w2.alloc (.cells #[.slice (some ⟨h, 0, none⟩) 96 96] 30 (0, 0)) = wo at *
  have hso := hb0.size
  have hsw : w2.heap.size < wo.heap.size := B3.lt
  clear hwo hF B1 HC HD hb1 hb2 hB k1 k2
  obtain ⟨ad2, hA⟩ : ∃ ad2, (if 128 = bs.length then some (⟨g, F * 128, none⟩ : Addr) else some ⟨g, F * 128 + bs.length, none⟩) = ad2 := ⟨_, rfl⟩
  have ct := hF0.at F (by omega)
  have k3 := B3.cell 0
  simp only [List.getElem?_cons_zero] at k3
  obtain ⟨cur, r1, r2, r3⟩ := hF0.row
  have R2 := Lib.hid r2
  have R3 := Lib.hid r3
  have HF0 := Lib.hid hF0
  clear r2 r3 hF0
  have r1d : Bk wo.drew g 5 cur := r1
  have k3d : wo.drew.cell? ⟨w2.heap.size, 0, none⟩ = some (.slice (some ⟨h, 0, none⟩) 96 96) := k3
  have ctd : wo.drew.cell? ⟨h, F, none⟩ = some (.slice (some ⟨g, F * 128, none⟩) 128 128) := ct
  have s1d : w2.heap.size < wo.drew.heap.size := hsw
  have s2d : h < wo.drew.heap.size := (by show h < wo.heap.size; omega)
  go_region_held3 (fun w' => w'.cell? ⟨w2.heap.size, 0, none⟩ = some (.slice (some ⟨h, 0, none⟩) 96 96) ∧ w'.cell? ⟨h, F, none⟩ = some (.slice (some ⟨g, F * 128, none⟩) 128 128)) (first | go_keep | exact ⟨by assumption, by assumption⟩) ((first
    | (refine step_copy_rd eb (fun _ => rfl) rfl (.tmp 30) (.tmp 31) 27 27 (by rfl) 5 Try.underlying27 sz5 (some ⟨g, F * 128, none⟩) g (F * 128) 128 128 ab bs bs.length cb bs.length (by rfl) (by rfl) rfl (Nat.min_eq_left (by omega)) (fun _ => rfl) (hbr.below hbwo.drew (Nat.le_refl _)) cur 5 r1d (by rw [R2.out]; omega) ?_; intro w3 hb3 hgr3; have q1 := (grown_cell hgr3 (p := ⟨w2.heap.size, 0, none⟩) s1d (by show w2.heap.size ≠ g; omega)).trans k3d; have q2 := (grown_cell hgr3 (p := ⟨h, F, none⟩) s2d (by show h ≠ g; omega)).trans ctd)
    | (refine step_clear_bk rfl (.tmp 33) 27 (by rfl) 5 (.int .u8 0) Try.underlying27 zero5 rfl rfl ad2 g (F * 128 + bs.length) (128 - bs.length) (128 - bs.length) (by rfl) (fun h0 => (by rw [← hA, if_neg (by omega)])) _ 5 hb3 (by rw [length_splice _ _ _ (by rw [R2.out]; simp; omega), R2.out]; omega) ?_; intro w4 hb4 hgr4; have q3 := (grown_cell hgr4 (p := ⟨w2.heap.size, 0, none⟩) (Nat.lt_of_lt_of_le s1d hgr3.size) (by show w2.heap.size ≠ g; omega)).trans q1; have q4 := (grown_cell hgr4 (p := ⟨h, F, none⟩) (Nat.lt_of_lt_of_le s2d hgr3.size) (by show h ≠ g; omega)).trans q2)))
  rw [List.take_length] at hb3 hb4
  have hgr3' : wo.grownBy w3 (some g) := ⟨hgr3.os, hgr3.tape, hgr3.output, hgr3.size, hgr3.block⟩
  have hl3 : (splice cur (F * 128 + 0) (bs.map eb)).length = 12288 := by rw [length_splice _ _ _ (by rw [R2.out]; simp; omega), R2.out]
  have hF3 := HF0.out.put hgh hgr3' R2.out R3.out F 0 bs (by omega) (by omega) hb3
  obtain ⟨cur3, s1, s2, s3⟩ := hF3.row
  have hF4 := hF3.put hgh hgr4 s2 s3 F bs.length (List.replicate (128 - bs.length) 0) (by omega) (by simp; omega) (by
    have he : cur3 = splice cur (F * 128) (bs.map eb) := by
      have e := s1.symm.trans hb3
      simp only [Option.some.injEq, Obj.cells.injEq, and_true] at e
      simpa using e
    rw [he, List.map_replicate]
    exact hb4)
  have e4 : (ps.set F (Fr.put (ps.getD F []) 0 bs)).set F (Fr.put ((ps.set F (Fr.put (ps.getD F []) 0 bs)).getD F []) bs.length (List.replicate (128 - bs.length) 0)) = ps.set F (bs ++ List.replicate (128 - bs.length) 0) := by
    have hF : F < ps.length := by rw [HL.out]; omega
    have eg : (ps.set F (Fr.put (ps.getD F []) 0 bs)).getD F [] = Fr.put (ps.getD F []) 0 bs := by simp [List.getD, hF]
    rw [eg, List.set_set, put_put _ _ HPF.out hlb]
  rw [e4] at hF4
  have HF4 := Lib.hid hF4
  have hgr5 := grown_trans hgr3' hgr4
  have B14 := B10.grown hgr5 (by simp; omega)
  have B34 := B3.grown hgr5 (by simp; omega)
  have HB4 := Lib.hid (hbwo.trans (below_of_grown hgr5 (by have := hbw1.size; omega) (by omega)))
  have k4 := B34.cell 0
  have k1 := B14.cell 0
  have z1 := B14.frozen 0
  simp only [List.getElem?_cons_zero] at k4 k1
  clear hb3 hb4 hgr3 hgr4 hgr3' hgr5 hF3 hF4 s1 s2 s3 hl3 e4 r1 r1d q1 q2 q3 q4 ct ctd k3 k3d hA
  go_wp2
  exact bodyPost_ret (v := .tuple #[.agg #[.slice (some ⟨h, 0, none⟩) 96 96], .int .i64 0]) (by simp [results, Try.results20, go_sem, k1]) rfl ⟨g, h, rfl, by omega, by omega, hgh, HF4.out.keep (Below.heap_setCell _ _ _ _ (by simp; omega)) (Below.heap_setCell _ _ _ _ (by simp; omega)), HB4.out.setCell (by simp) _⟩

theorem Fr_chk_copy {ps : List (List UInt8)} {b : List UInt8} (to : Int) (hl : b.length = 128) (hva : Fr.valid ps = true) : Fr.chk ps to 0 b.length = if 0 ≤ to ∧ to < 96 then 0 else 2 := by
  unfold Fr.chk
  rw [if_pos hva]
  by_cases h : 0 ≤ to ∧ to < 96
  · rw [if_pos h, if_pos (Fr.okR_iff.2 ⟨h.1, h.2, by omega, by omega, by omega, by omega⟩)]
  · rw [if_neg h, if_neg (fun hh => h ⟨(Fr.okR_iff.1 hh).1, (Fr.okR_iff.1 hh).2.1⟩)]

/-- A memory that was made by the call (from block B on), with its error. -/
def Res (B : Nat) (r : List (List UInt8) × Int) (v : Value) (w : World) : Prop :=
  (∃ g h, v = .slice (some ⟨h, 0, none⟩) 96 96 ∧ B ≤ g ∧ B ≤ h ∧ g ≠ h ∧ Fm w g h r.1 ∧ r.2 = 0) ∨ (v = .slice none 0 0 ∧ r.1 = [] ∧ r.2 ≠ 0)

theorem Res.pg {B : Nat} {r : List (List UInt8) × Int} {v : Value} {w : World} (h : Res B r v w) : Pg w v r.1 := by
  rcases h with ⟨g, h, rfl, _, _, _, hF, _⟩ | ⟨rfl, h, _⟩
  · exact hF.pg
  · rw [h]; exact Pg.nil _

theorem Res.form {B : Nat} {r : List (List UInt8) × Int} {v : Value} {w : World} (h : Res B r v w) : ∃ a n c, v = .slice a n c := by
  rcases h with ⟨g, h, rfl, _⟩ | ⟨rfl, _⟩ <;> exact ⟨_, _, _, rfl⟩

theorem Res.keep {B B' : Nat} {r : List (List UInt8) × Int} {v : Value} {w w' : World} (h : Res B r v w) (hk : ∀ b, B ≤ b → b < w.heap.size → w'.heap[b]? = w.heap[b]?) (hB : B' ≤ B) : Res B' r v w' := by
  rcases h with ⟨g, h, rfl, h1, h2, h3, hF, h4⟩ | h
  · exact .inl ⟨g, h, rfl, by omega, by omega, h3, hF.keep (hk g h1 hF.lt.1) (hk h h2 hF.lt.2), h4⟩
  · exact .inr h

theorem Res.below {B : Nat} {r : List (List UInt8) × Int} {v : Value} {w w' : World} (h : Res B r v w) {B' : Nat} (hb : Below B' w w') (hB : w.heap.size ≤ B') : Res B r v w' := h.keep (fun b _ hl => hb.block b (by omega)) (Nat.le_refl _)

/-- What Set answers, whatever the arguments. -/
def SetPost (w : World) (r : List (List UInt8) × Int) (e : Ending) (w' : World) : Prop :=
  ∃ v', e = .returned (.tuple #[.agg #[v'], .int .i64 r.2]) ∧ Res w.heap.size r v' w' ∧ Below w.heap.size w w'

theorem fset_w {v vb : Value} {ps : List (List UInt8)} {bs : List UInt8} {w : World} (f : Int) (hv : Pg w v ps) (hb : Sl eb w vb bs) :
    Calls Try.prog 20 #[.agg #[v], .int .i64 f, vb] w (SetPost w (Fr.setF ps f bs)) := by
  unfold Fr.setF
  by_cases hc : Fr.chk ps f 0 bs.length = 0
  · rw [if_pos hc]
    exact (fset_ok f hv hb hc).mono fun e w' ⟨g, h, he, h1, h2, h3, h4, h5⟩ => ⟨_, he, .inl ⟨g, h, rfl, h1, h2, h3, h4, rfl⟩, h5⟩
  · rw [if_neg hc]
    exact (fset_err f hv hb hc).mono fun e w' ⟨he, h5⟩ => ⟨_, he, .inr ⟨rfl, rfl, hc⟩, h5⟩

theorem fwrite_w {v vb : Value} {ps : List (List UInt8)} {bs : List UInt8} {w : World} (f x : Int) (hv : Pg w v ps) (hb : Sl eb w vb bs) :
    Calls Try.prog 12 #[.agg #[v], .int .i64 f, .int .i64 x, vb] w (SetPost w (Fr.write ps f x bs)) := by
  unfold Fr.write
  by_cases hc : Fr.chk ps f x bs.length = 0
  · rw [if_pos hc]
    exact (fwrite_ok f x hv hb hc).mono fun e w' ⟨g, h, he, h1, h2, h3, h4, h5⟩ => ⟨_, he, .inl ⟨g, h, rfl, h1, h2, h3, h4, rfl⟩, h5⟩
  · rw [if_neg hc]
    exact (fwrite_err f x hv hb hc).mono fun e w' ⟨he, h5⟩ => ⟨_, he, .inr ⟨rfl, rfl, hc⟩, h5⟩

set_option maxHeartbeats 800000 in
theorem fcopy_w {v : Value} {ps : List (List UInt8)} {w : World} (to fr : Int) (hv : Pg w v ps) :
    Calls Try.prog 30 #[.agg #[v], .int .i64 to, .int .i64 fr] w (SetPost w (Fr.copy ps to fr)) := by
  have HV := Lib.hid hv
  have HR : Hid (∀ w', Below w.heap.size w w' → Calls Try.prog 14 #[.agg #[v], .int .i64 fr, .int .i64 0, .int .i64 128] w' fun e w'' => ∃ v', e = .returned (.tuple #[v', .int .i64 (Fr.read ps fr 0 128).2]) ∧ w''.ownsRow w'.heap.size 5 1 v' (Fr.read ps fr 0 128).1.length ((Fr.read ps fr 0 128).1.map eb) ∧ Below w'.heap.size w' w'') := fun w' hb => fread_w fr 0 128 (hv.below hb (Nat.le_refl _))
  have hB : Below w.heap.size w ((w.alloc (.cells #[v] 30 (0, 0))).alloc (.cells #[.slice none 0 0] 30 (0, 0))) := ((Below.refl _ _).alloc (Nat.le_refl _) _).alloc (by simp) _
  obtain ⟨a, cap, rfl, -⟩ := hv.open
  by_cases hc : Fr.chk ps fr 0 128 = 0
  · obtain ⟨hva, hok⟩ := Fr.chk_zero hc
    obtain ⟨hl, hpl⟩ := Fr.valid_iff.1 hva
    obtain ⟨r1, r2, -, -, -, -⟩ := Fr.okR_iff.1 hok
    have hpf : Fr.page ps fr = ps[fr.toNat]'(by omega) := by unfold Fr.page; simp [List.getD, show fr.toNat < ps.length by omega]
    have hpl' : (Fr.page ps fr).length = 128 := by rw [hpf]; exact hpl _ _
    have hrd : Fr.read ps fr 0 128 = (Fr.page ps fr, 0) := by
      unfold Fr.read; rw [if_pos hc]; simp only [Int.toNat_zero, List.drop_zero]
      rw [List.take_of_length_le (by rw [hpl']; decide)]
    rw [hrd] at HR
    have HS := Lib.hid (fun w' (hb : Below w.heap.size w w') vb (hs : Sl eb w' vb (Fr.page ps fr)) => fset_w to (hv.below hb (Nat.le_refl _)) hs)
    have HE : Hid (Fr.setF ps to (Fr.page ps fr) = Fr.copy ps to fr) := by
      show _ = _
      unfold Fr.setF Fr.copy
      rw [Fr_chk_copy to hpl' hva, if_pos hva, hpl']
      by_cases h : 0 ≤ to ∧ to < 96
      · rw [if_pos h, if_pos rfl, if_pos ⟨h.1, h.2, r1, r2⟩]
        simp
      · rw [if_neg h, if_neg (by decide), if_neg (fun hh => h ⟨hh.1, hh.2.1⟩)]
    generalize hfs : Fr.setF ps to (Fr.page ps fr) = rs at *
    generalize hcs : Fr.copy ps to fr = rc at *
    clear hfs hcs hc hva hok hl hpl hpf hrd hv HV r1 r2
    generalize Fr.page ps fr = pg at *
    have HPL := Lib.hid hpl'
    clear hpl'
    go_enter Try.func30, Try.ntmps30
    go_wp2_with (first
      | (go_at_call 14; refine (HR.out _ hB).mono ?_; rintro e w1 ⟨v1, rfl, ho1, hb1⟩; obtain ⟨hbw1, k1, k2⟩ := boxes2 hb1; have B1 : Bk w1 (w.heap.size + 1) 30 [.slice none 0 0] := ((Bk.newAt _ _ [_] (by simp)).below hb1 (by simp)))
      | (go_at_call 20; refine (HS.out w1 hbw1 _ (Sl.ofOwn ho1)).mono ?_; rintro e w2 ⟨v2, rfl, hp2, hb2⟩; obtain ⟨a2, n2, c2, rfl⟩ := hp2.form; have HP2 := Lib.hid hp2; clear hp2; have B2 := B1.below hb2 B1.lt; have k3 := B2.cell 0; have z3 := B2.frozen 0; simp only [List.getElem?_cons_zero] at k3))
    have hs1 : w.heap.size + 2 ≤ w1.heap.size := by have := hb1.size; simp at this; omega
    have hbw2 := hbw1.trans (hb2.mono hbw1.size)
    have hs2 := hb2.size
    refine bodyPost_ret (v := .tuple #[.agg #[.slice a2 n2 c2], .int .i64 rs.2]) (by simp [results, Try.results30, go_sem, k3]) rfl ?_
    rw [← HE.out]
    exact ⟨_, rfl, HP2.out.keep (fun b h1 _ => Below.heap_setCell _ _ _ _ (by simp; omega)) hbw1.size, hbw2.setCell (by simp) _⟩
  · have hne : ((Fr.chk ps fr 0 128) != 0) = true := by rw [bne_iff_ne]; exact hc
    have hrd : Fr.read ps fr 0 128 = ([], Fr.chk ps fr 0 128) := by unfold Fr.read; rw [if_neg hc]
    rw [hrd] at HR
    have HE : Hid (Fr.copy ps to fr = ([], Fr.chk ps fr 0 128)) := by
      show _ = _
      unfold Fr.copy Fr.chk
      unfold Fr.chk at hc
      by_cases hva : Fr.valid ps = true
      · rw [if_pos hva, if_pos hva]
        rw [if_pos hva] at hc
        have hok : Fr.okR fr 0 128 = false := by
          cases h : Fr.okR fr 0 128
          · rfl
          · rw [h] at hc; simp at hc
        have hno : ¬ (0 ≤ to ∧ to < 96 ∧ 0 ≤ fr ∧ fr < 96) := by
          rintro ⟨h1, h2, h3, h4⟩
          have := Fr.okR_iff.2 (⟨h3, h4, by omega, by omega, by omega, by omega⟩ : 0 ≤ fr ∧ fr < 96 ∧ (0 : Int) ≤ 0 ∧ (0 : Int) ≤ 128 ∧ (0 : Int) ≤ 128 ∧ (128 : Int) ≤ 128 - 0)
          rw [hok] at this; cases this
        rw [if_neg hno, hok]
        rfl
      · rw [if_neg hva, if_neg hva]
    generalize hck : Fr.chk ps fr 0 128 = c at *
    have HC := Lib.hid hc
    clear hc hck hrd hv HV
    go_enter Try.func30, Try.ntmps30
    go_wp2_with (go_at_call 14; refine (HR.out _ hB).mono ?_; rintro e w1 ⟨v1, rfl, ho1, hb1⟩; obtain ⟨hbw1, k1, k2⟩ := boxes2 hb1; have z2 := (hb1.frozen (p := ⟨w.heap.size + 1, 0, none⟩) (by simp)).trans (frozen_of_row _ _ 0 #[.slice none 0 0] 30 (Bk.newAt _ _ [.slice none 0 0] (by simp))))
    refine bodyPost_ret (v := .tuple #[.agg #[.slice none 0 0], .int .i64 c]) (by simp [results, Try.results30, go_sem, k2]) rfl ?_
    rw [HE.out]
    exact ⟨_, rfl, .inr ⟨rfl, rfl, HC.out⟩, hbw1.setCell (by simp) _⟩
end Go.Proofs.Ytkgheilaleekdaa
