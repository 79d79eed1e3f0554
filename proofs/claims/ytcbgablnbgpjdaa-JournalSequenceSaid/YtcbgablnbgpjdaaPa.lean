/-
  Plain: numbers and their bytes, there and back; the log as the journal reads it, and that it reads as specified. No program is named here.
-/
import Derived.Test.YtcbgablnbgpjdaaSpec
namespace Jr
/-- The number in some bytes, without bound. -/
def horn (l : List UInt8) : Nat := l.foldl (fun n x => 256 * n + x.toNat) 0
theorem horn_snoc (l : List UInt8) (x : UInt8) : horn (l ++ [x]) = 256 * horn l + x.toNat := by unfold horn; rw [List.foldl_append]; rfl
theorem list_snoc {α : Type} {P : List α → Prop} (h0 : P []) (h1 : ∀ l x, P l → P (l ++ [x])) (l : List α) : P l := by
  have h : ∀ r : List α, P r.reverse := fun r => by
    induction r with
    | nil => exact h0
    | cons x r ih => rw [List.reverse_cons]; exact h1 _ _ ih
  have h' := h l.reverse
  rwa [List.reverse_reverse] at h'
theorem horn_lt (l : List UInt8) : horn l < 256 ^ l.length := by
  induction l using list_snoc with
  | h0 => simp [horn]
  | h1 l x ih =>
    rw [horn_snoc, List.length_append, List.length_singleton, Nat.pow_succ]
    have := x.toNat_lt
    omega
theorem get_snoc (l : List UInt8) (x : UInt8) : get (l ++ [x]) = (get l <<< 8) ||| x.toUInt64 := by unfold get; rw [List.foldl_append]; rfl
theorem get_nat (l : List UInt8) : l.length ≤ 8 → (get l).toNat = horn l := by
  induction l using list_snoc with
  | h0 => intro _; rfl
  | h1 l x ih =>
    intro hl
    rw [List.length_append, List.length_singleton] at hl
    have hx := x.toNat_lt
    have h1 := horn_lt l
    have h2 : 256 ^ l.length ≤ 256 ^ 7 := Nat.pow_le_pow_right (by omega) (by omega)
    rw [get_snoc, horn_snoc, UInt64.toNat_or, UInt64.toNat_shiftLeft, ih (by omega)]
    have : (8 : UInt64).toNat % 64 = 8 := by decide
    rw [this, Nat.shiftLeft_eq, Nat.mod_eq_of_lt (by omega)]
    have h3 : x.toUInt64.toNat = x.toNat := by simp
    rw [h3, Nat.mul_comm (horn l), show (2 ^ 8 : Nat) = 256 by decide]
    exact (Nat.two_pow_add_eq_or_of_lt (i := 8) hx (horn l)).symm

def numN (n k : Nat) : List UInt8 := ((List.range k).map fun i => UInt8.ofNat (n / 256 ^ i)).reverse
theorem num_nat (n : UInt64) (k : Nat) : num n k = numN n.toNat k := rfl
theorem numN_succ (n k : Nat) : numN n (k + 1) = numN (n / 256) k ++ [UInt8.ofNat n] := by
  unfold numN
  rw [List.range_succ_eq_map, List.map_cons, List.reverse_cons, List.map_map]
  have e : (List.range k).map ((fun i => UInt8.ofNat (n / 256 ^ i)) ∘ Nat.succ) = (List.range k).map fun i => UInt8.ofNat (n / 256 / 256 ^ i) := by
    apply List.map_congr_left
    intro i _
    simp only [Function.comp, Nat.succ_eq_add_one]
    rw [Nat.pow_succ, Nat.mul_comm, Nat.div_div_eq_div_mul]
  rw [e]
  simp
theorem numN_len (n k : Nat) : (numN n k).length = k := by simp [numN]
theorem numN_horn (l : List UInt8) : numN (horn l) l.length = l := by
  induction l using list_snoc with
  | h0 => rfl
  | h1 l x ih =>
    have hx := x.toNat_lt
    rw [List.length_append, List.length_singleton, numN_succ, horn_snoc, show (256 * horn l + x.toNat) / 256 = horn l by omega, ih]
    congr 2
    apply UInt8.toNat_inj.1
    rw [UInt8.toNat_ofNat']
    omega
theorem horn_numN (k : Nat) : ∀ n, horn (numN n k) = n % 256 ^ k := by
  induction k with
  | zero => intro n; simp [numN, horn, Nat.mod_one]
  | succ k ih =>
    intro n
    have e : n % 256 ^ (k + 1) = n % 256 + 256 * (n / 256 % 256 ^ k) := by rw [Nat.pow_succ, Nat.mul_comm (256 ^ k) 256, Nat.mod_mul]
    rw [numN_succ, horn_snoc, ih, UInt8.toNat_ofNat', e]
    omega
theorem get_num8 (s : UInt64) : get (num s 8) = s := by
  apply UInt64.toNat_inj.1
  rw [get_nat _ (by rw [num_nat, numN_len]; omega), num_nat, horn_numN]
  have := s.toNat_lt
  exact Nat.mod_eq_of_lt this
theorem num_get8 (l : List UInt8) (h : l.length ≤ 8) : num (get l) l.length = l := by
  rw [num_nat, get_nat _ h, numN_horn]
theorem get_eq8 (l : List UInt8) (h : l.length = 8) (s : UInt64) : get l = s ↔ l = num s 8 := by
  constructor
  · intro e
    have := num_get8 l (by omega)
    rw [h, e] at this
    exact this.symm
  · rintro rfl
    exact get_num8 s
theorem word_nat (n : Nat) (h : n < 18446744073709551616) : (Sum.word (n : Int)).toNat = n := by
  unfold Sum.word
  rw [UInt64.toNat_ofNat']
  omega
theorem word_get (l : List UInt8) (h : l.length = 4) : num (Sum.word ((get l).toNat : Int)) 4 = l := by
  have h1 := get_nat l (by omega)
  rw [num_nat, word_nat _ (get l).toNat_lt, h1, ← h, numN_horn]

/-! ### the log, as the journal reads it -/
def cnt (h : List UInt8) : Nat := (h.getD 4 0).toNat
def ent (h : List UInt8) (i : Nat) : UInt8 := h.getD (5 + i) 0
def bls (h : List UInt8) (n : Nat) : List Int := (List.range n).map fun i => ((ent h i).toNat : Int)
def leadOk (h : List UInt8) : Bool := decide (h.take 4 = [74, 82, 78, 48] ∧ cnt h = 0) || decide (h.take 4 = [74, 82, 78, 49] ∧ 0 < cnt h ∧ cnt h ≤ 11)
def entAt (h : List UInt8) (i : Nat) : Bool := if cnt h ≤ i then decide (ent h i = 0) else home (ent h i).toNat && decide (((ent h i).toNat : Int) ∉ bls h i)
def entOk (h : List UInt8) : Bool := (List.range 11).all (entAt h)
theorem entOk_iff (h : List UInt8) : entOk h = true ↔ ∀ i, i < 11 → entAt h i = true := by unfold entOk; rw [List.all_eq_true]; simp
def zerOk (h : List UInt8) : Bool := decide (∀ x ∈ h.drop 28, x = 0)
def formOk (h : List UInt8) : Bool := leadOk h && (entOk h && zerOk h)
def cov (d : List UInt8) : List UInt8 := (blk d 1).take 20 ++ if cnt (blk d 1) = 0 then [] else slots d
def pread (d : List UInt8) : Int × List Wr × Int :=
  if d.length ≠ 12288 then (0, [], 1)
  else if formOk (blk d 1) = false then (0, [], 4)
  else if get (((blk d 1).drop 20).take 8) ≠ Sum.of (cov d) then (0, [], 5)
  else (seqOf d, logged d (cnt (blk d 1)), 0)

theorem blk_len (d : List UInt8) (n : Nat) (h : (n + 1) * 128 ≤ d.length) : (blk d n).length = 128 := by
  unfold blk
  rw [List.length_take, List.length_drop]
  omega
theorem logged_len (d : List UInt8) (k : Nat) : (logged d k).length = k := by simp [logged]
theorem logged_fst (d : List UInt8) (k : Nat) : (logged d k).map Prod.fst = bls (blk d 1) k := by
  unfold logged bls
  rw [List.map_map]
  apply List.map_congr_left
  intro i _
  rfl
theorem bls_len (h : List UInt8) (k : Nat) : (bls h k).length = k := by simp [bls]
theorem bls_get (h : List UInt8) (k i : Nat) (hi : i < (bls h k).length) : (bls h k)[i] = ((ent h i).toNat : Int) := by simp [bls]
theorem nodup_range {f : Nat → Int} : ∀ k, ((List.range k).map f).Nodup ↔ ∀ i, i < k → f i ∉ (List.range i).map f := by
  intro k
  induction k with
  | zero => simp
  | succ k ih =>
    rw [List.range_succ, List.map_append, List.nodup_append, ih]
    constructor
    · rintro ⟨h1, -, h3⟩ i hi
      by_cases e : i = k
      · subst e
        intro hm
        exact h3 _ hm _ (by simp) rfl
      · exact h1 i (by omega)
    · intro h
      refine ⟨fun i hi => h i (by omega), by simp, fun a ha b hb => ?_⟩
      simp at hb
      subst hb
      rintro rfl
      exact h k (by omega) ha
theorem valid_logged (d : List UInt8) (hd : d.length = 12288) (k : Nat) (h0 : 0 < k) (h1 : k ≤ 11) : valid (logged d k) = true ↔ ∀ i, i < k → home (ent (blk d 1) i).toNat = true ∧ ((ent (blk d 1) i).toNat : Int) ∉ bls (blk d 1) i := by
  have hgood : (logged d k).all good = true ↔ ∀ i, i < k → home (ent (blk d 1) i).toNat = true := by
    rw [List.all_eq_true]
    unfold logged
    constructor
    · intro h i hi
      have := h _ (List.mem_map.2 ⟨i, List.mem_range.2 hi, rfl⟩)
      unfold good at this
      simp only [Bool.and_eq_true] at this
      exact this.1
    · intro h x hx
      obtain ⟨i, hi, rfl⟩ := List.mem_map.1 hx
      have hi' := List.mem_range.1 hi
      unfold good
      simp only [Bool.and_eq_true, decide_eq_true_eq]
      exact ⟨h i hi', blk_len d _ (by omega)⟩
  have hap : apart (logged d k) = true ↔ ∀ i, i < k → ((ent (blk d 1) i).toNat : Int) ∉ bls (blk d 1) i := by
    unfold apart
    rw [decide_eq_true_iff, logged_fst]
    exact nodup_range k
  unfold valid
  rw [logged_len]
  simp only [Bool.and_eq_true, decide_eq_true_eq, hgood, hap]
  constructor
  · rintro ⟨h1, h2, -⟩ i hi
    exact ⟨h1 i hi, h2 i hi⟩
  · intro h
    exact ⟨fun i hi => (h i hi).1, fun i hi => (h i hi).2, by omega, h1⟩

theorem pre_len (c : UInt8) (bl : List Int) (seq : Int) : (pre c bl seq).length = 20 := by
  unfold pre
  rw [List.length_append, List.length_append, num_nat, numN_len]
  simp
theorem mk_take (c : UInt8) (bl : List Int) (seq : Int) (sl : List UInt8) : (mk c bl seq sl).take 20 = pre c bl seq := by
  unfold mk
  rw [List.append_assoc, List.take_left' (pre_len _ _ _)]
theorem mk_mid (c : UInt8) (bl : List Int) (seq : Int) (sl : List UInt8) : ((mk c bl seq sl).drop 20).take 8 = num (Sum.of (pre c bl seq ++ sl)) 8 := by
  unfold mk
  rw [List.append_assoc, List.drop_left' (pre_len _ _ _), List.take_left' (by rw [num_nat, numN_len])]
theorem mk_drop (c : UInt8) (bl : List Int) (seq : Int) (sl : List UInt8) : (mk c bl seq sl).drop 28 = List.replicate 100 0 := by
  unfold mk
  rw [List.drop_left' (by rw [List.length_append, pre_len, num_nat, numN_len])]
theorem ib_byte (b : UInt8) : ib (b.toNat : Int) = b := by
  apply UInt8.toNat_inj.1
  have := b.toNat_lt
  unfold ib Sum.byte
  rw [word_nat _ (by omega)]
  simp

/-- The first 20 bytes of a header, taken apart. -/
theorem cut20 (h : List UInt8) (hl : h.length = 128) : h.take 20 = h.take 4 ++ [UInt8.ofNat (cnt h)] ++ (List.range 11).map (ent h) ++ (h.drop 16).take 4 := by
  have e4 : UInt8.ofNat (cnt h) = h.getD 4 0 := by unfold cnt; simp
  rw [e4]
  apply List.ext_getElem (by simp; omega)
  intro i h1 h2
  rw [List.length_take] at h1
  rw [List.getElem_take]
  by_cases a : i < 4
  · rw [List.getElem_append_left (by simp; omega), List.getElem_append_left (by simp; omega), List.getElem_append_left (by simp; omega), List.getElem_take]
  · by_cases b : i = 4
    · subst b
      rw [List.getElem_append_left (by simp), List.getElem_append_left (by simp; omega), List.getElem_append_right (by simp; exact Nat.min_le_left _ _)]
      simp [List.getD, hl]
    · by_cases c : i < 16
      · rw [List.getElem_append_left (by simp; omega), List.getElem_append_right (by simp; omega)]
        simp only [List.getElem_map, List.getElem_range, ent, List.length_append, List.length_take, List.length_singleton, hl]
        rw [List.getD_eq_getElem?_getD, List.getElem?_eq_getElem (by omega), Option.getD_some]
        congr 1
        omega
      · rw [List.getElem_append_right (by simp; omega)]
        simp only [List.getElem_take, List.getElem_drop, List.length_append, List.length_take, List.length_singleton, List.length_map, List.length_range, hl]
        congr 1
        omega

theorem pre_eq (h : List UInt8) (hl : h.length = 128) (c : UInt8) : h.take 20 = pre c (bls h (cnt h)) ((get ((h.drop 16).take 4)).toNat : Int) ↔ h.take 4 = [74, 82, 78, c] ∧ ∀ i, i < 11 → cnt h ≤ i → ent h i = 0 := by
  rw [cut20 h hl]
  unfold pre
  rw [word_get _ (by simp; omega)]
  simp only [bls_len]
  have e5 : ([74, 82, 78, c, UInt8.ofNat (cnt h)] : List UInt8) = [74, 82, 78, c] ++ [UInt8.ofNat (cnt h)] := rfl
  rw [e5, List.append_left_inj]
  constructor
  · intro e
    have e' := List.append_inj e (by simp; omega)
    have e1 := List.append_inj e'.1 (by simp; omega)
    refine ⟨e1.1, fun i hi hc => ?_⟩
    have e2 : ((List.range 11).map (ent h))[i]? = ((List.range 11).map fun i => if h' : i < cnt h then ib ((bls h (cnt h))[i]'(by rw [bls_len]; exact h')) else 0)[i]? := by rw [e'.2]
    simp only [List.getElem?_map, List.getElem?_range hi, Option.map_some] at e2
    rw [dif_neg (by omega)] at e2
    exact Option.some.inj e2
  · rintro ⟨e1, e2⟩
    rw [e1]
    congr 1
    apply List.map_congr_left
    intro i hi
    have hi' := List.mem_range.1 hi
    by_cases hc : i < cnt h
    · rw [dif_pos hc, bls_get, ib_byte]
    · rw [dif_neg hc, e2 i hi' (by omega)]

theorem zer_eq (h : List UInt8) (hl : h.length = 128) : zerOk h = true ↔ h.drop 28 = List.replicate 100 0 := by
  unfold zerOk
  rw [decide_eq_true_iff, List.eq_replicate_iff]
  constructor
  · intro e
    exact ⟨by simp; omega, e⟩
  · exact fun e => e.2

/-- The journal reads a log as specified. -/
theorem pread_eq (d : List UInt8) : pread d = read d := by
  unfold pread read
  by_cases hd : d.length = 12288
  · rw [if_neg (show ¬ d.length ≠ 12288 by simpa using hd), if_neg (show ¬ d.length ≠ 12288 by simpa using hd)]
    have hl : (blk d 1).length = 128 := blk_len d 1 (by omega)
    have hcn : ((blk d 1).getD 4 0).toNat = cnt (blk d 1) := rfl
    simp only [hcn]
    by_cases h11 : 11 < cnt (blk d 1)
    · rw [if_pos (Or.inl h11)]
      have : formOk (blk d 1) = false := by
        unfold formOk leadOk
        rw [decide_eq_false (by omega), decide_eq_false (by omega)]
        rfl
      rw [if_pos this]
    · rw [Nat.min_eq_left (by omega)]
      by_cases hv : 0 < cnt (blk d 1) ∧ valid (logged d (cnt (blk d 1))) = false
      · rw [if_pos (Or.inr hv)]
        have : formOk (blk d 1) = false := by
          have h1 : ¬ valid (logged d (cnt (blk d 1))) = true := by rw [hv.2]; simp
          rw [valid_logged d hd _ hv.1 (by omega)] at h1
          unfold formOk
          have h2 : entOk (blk d 1) = false := by
            rw [Bool.eq_false_iff]
            intro h3
            rw [entOk_iff] at h3
            apply h1
            intro i hi
            have := h3 i (by omega)
            unfold entAt at this
            rw [if_neg (by omega)] at this
            simpa using this
          rw [h2]
          simp
        rw [if_pos this]
      · rw [if_neg (show ¬ (11 < cnt (blk d 1) ∨ (0 < cnt (blk d 1) ∧ valid (logged d (cnt (blk d 1))) = false)) from fun h => h.elim h11 hv)]
        have hent : entOk (blk d 1) = true ↔ ∀ i, i < 11 → cnt (blk d 1) ≤ i → ent (blk d 1) i = 0 := by
          rw [entOk_iff]
          constructor
          · intro h i hi hc
            have := h i hi
            unfold entAt at this
            rw [if_pos hc] at this
            simpa using this
          · intro h i hi
            unfold entAt
            by_cases hc : cnt (blk d 1) ≤ i
            · rw [if_pos hc]
              simpa using h i hi hc
            · rw [if_neg hc]
              have h0 : 0 < cnt (blk d 1) := by omega
              have hv' : valid (logged d (cnt (blk d 1))) = true := by
                cases hq : valid (logged d (cnt (blk d 1)))
                · exact absurd ⟨h0, hq⟩ hv
                · rfl
              have := (valid_logged d hd _ h0 (by omega)).1 hv' i (by omega)
              simpa using this
        obtain ⟨c, sl, hc, hw, hcov⟩ : ∃ c sl, (leadOk (blk d 1) = true ↔ (blk d 1).take 4 = [74, 82, 78, c]) ∧ head (seqOf d) (logged d (cnt (blk d 1))) (slots d) = mk c (bls (blk d 1) (cnt (blk d 1))) (seqOf d) sl ∧ cov d = (blk d 1).take 20 ++ sl := by
          by_cases h0 : cnt (blk d 1) = 0
          · refine ⟨48, [], ?_, ?_, ?_⟩
            · unfold leadOk
              rw [decide_eq_false (p := (blk d 1).take 4 = [74, 82, 78, 49] ∧ _) (by omega), Bool.or_false, decide_eq_true_iff]
              exact ⟨fun h => h.1, fun h => ⟨h, h0⟩⟩
            · unfold head
              rw [if_pos (List.eq_nil_of_length_eq_zero (by rw [logged_len]; exact h0)), h0]
              rfl
            · unfold cov
              rw [if_pos h0]
          · refine ⟨49, slots d, ?_, ?_, ?_⟩
            · unfold leadOk
              rw [decide_eq_false (p := (blk d 1).take 4 = [74, 82, 78, 48] ∧ _) (by omega), Bool.false_or, decide_eq_true_iff]
              exact ⟨fun h => h.1, fun h => ⟨h, by omega, by omega⟩⟩
            · unfold head
              rw [if_neg (fun e => h0 (by rw [← logged_len d (cnt (blk d 1)), e]; rfl)), logged_fst]
            · unfold cov
              rw [if_neg h0]
        rw [hw, mk_take, mk_drop, mk_mid, hcov]
        have hpre := pre_eq (blk d 1) hl c
        have hzer := zer_eq (blk d 1) hl
        by_cases hf : formOk (blk d 1) = true
        · unfold formOk at hf
          have hf' := hf
          simp only [Bool.and_eq_true] at hf'
          have p1 := hpre.2 ⟨hc.1 hf'.1, hent.1 hf'.2.1⟩
          have p2 := hzer.1 hf'.2.2
          have p1' : (blk d 1).take 20 = pre c (bls (blk d 1) (cnt (blk d 1))) (seqOf d) := p1
          rw [if_neg (show ¬ formOk (blk d 1) = false by unfold formOk; rw [hf]; simp), if_neg (show ¬ (_ ∨ _) from fun h => h.elim (fun h => h p1') (fun h => h p2)), ← p1']
          by_cases hs : get (((blk d 1).drop 20).take 8) = Sum.of ((blk d 1).take 20 ++ sl)
          · rw [if_neg (by simpa using hs), if_neg (by simpa using (get_eq8 _ (by simp; omega) _).1 hs)]
          · rw [if_pos hs, if_pos (fun e => hs ((get_eq8 _ (by simp; omega) _).2 e))]
        · rw [if_pos (show formOk (blk d 1) = false by simpa using hf), if_pos]
          have hsq : (seqOf d) = ((get (((blk d 1).drop 16).take 4)).toNat : Int) := rfl
          rw [hsq]
          by_cases q1 : (blk d 1).take 20 = pre c (bls (blk d 1) (cnt (blk d 1))) ((get (((blk d 1).drop 16).take 4)).toNat : Int)
          · right
            intro q2
            apply hf
            have q3 := hpre.1 q1
            unfold formOk
            rw [hc.2 q3.1, hent.2 q3.2, hzer.2 q2]
            rfl
          · exact Or.inl q1
  · rw [if_pos hd, if_pos hd]
end Jr
namespace Jr
/-! ### what makes writes an update -/
theorem valid_good {l : List Wr} {k : Nat} (hk : k < l.length) (h : good l[k] = false) : valid l = false := by
  unfold valid
  have : l.all good = false := by
    rw [List.all_eq_false]
    exact ⟨_, List.getElem_mem hk, by rw [h]; simp⟩
  rw [this, Bool.false_and]
theorem nodup_take {l : List Int} : l.Nodup ↔ ∀ k (hk : k < l.length), l[k] ∉ l.take k := by
  have h : ∀ (r : List Int), r.Nodup ↔ ∀ k (hk : k < r.length), r[k] ∉ r.take k := fun r => by
    induction r using list_snoc with
    | h0 => simp
    | h1 r x ih =>
      rw [List.nodup_append, ih]
      constructor
      · rintro ⟨h1, -, h3⟩ k hk hm
        by_cases e : k < r.length
        · rw [List.getElem_append_left e, List.take_append_of_le_length (by omega)] at hm
          exact h1 k e hm
        · have e2 : k = r.length := by simp at hk; omega
          subst e2
          rw [List.getElem_append_right (Nat.le_refl _), List.take_left] at hm
          simp at hm
          exact h3 _ hm _ (by simp) rfl
      · intro h
        refine ⟨fun k hk hm => ?_, by simp, fun a ha b hb e => ?_⟩
        · apply h k (by simp; omega)
          rw [List.getElem_append_left hk, List.take_append_of_le_length (by omega)]
          exact hm
        · simp at hb
          subst hb e
          apply h r.length (by simp)
          rw [List.getElem_append_right (Nat.le_refl _), List.take_left]
          simpa using ha
  exact h l
theorem valid_twice {l : List Wr} {k : Nat} (hk : k < l.length) (h : l[k].1 ∈ (l.take k).map Prod.fst) : valid l = false := by
  unfold valid
  have : apart l = false := by
    unfold apart
    rw [decide_eq_false_iff_not, nodup_take]
    intro hn
    apply hn k (by simpa using hk)
    rw [List.getElem_map, ← List.map_take]
    exact h
  rw [this, Bool.false_and, Bool.and_false]
theorem valid_yes {l : List Wr} (h1 : ∀ i (h : i < l.length), good l[i] = true ∧ l[i].1 ∉ (l.take i).map Prod.fst) : valid l = (decide (1 ≤ l.length) && decide (l.length ≤ 11)) := by
  unfold valid
  have e1 : l.all good = true := by
    rw [List.all_eq_true]
    intro x hx
    obtain ⟨i, hi, rfl⟩ := List.getElem_of_mem hx
    exact (h1 i hi).1
  have e2 : apart l = true := by
    unfold apart
    rw [decide_eq_true_iff, nodup_take]
    intro k hk
    rw [List.getElem_map, ← List.map_take]
    exact (h1 k (by simpa using hk)).2
  rw [e1, e2, Bool.true_and, Bool.true_and]
/-- Which blocks the first k writes have. -/
def met (l : List Wr) (k : Nat) (x : Int) : Bool := decide (x ∈ (l.take k).map Prod.fst)
theorem met_zero (l : List Wr) (x : Int) : met l 0 x = false := by simp [met]
theorem met_step (l : List Wr) (k : Nat) (hk : k < l.length) (x : Int) : (if x = l[k].1 then true else met l k x) = met l (k + 1) x := by
  unfold met
  rw [List.take_succ_eq_append_getElem hk, List.map_append]
  by_cases e : x = l[k].1
  · rw [if_pos e]; symm; rw [decide_eq_true_iff]; simp [e]
  · rw [if_neg e]
    rw [Bool.eq_iff_iff, decide_eq_true_iff, decide_eq_true_iff]
    simp [e]
end Jr
