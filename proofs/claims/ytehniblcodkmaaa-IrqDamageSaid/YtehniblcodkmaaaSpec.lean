/-
  Plain: interrupts (layer 15). No program is named here.
-/
import Derived.Test.YtehniblcodkmaaaIdx0
import Derived.Test.YtehniblcodkmaaaSumSpec
namespace Iq
/-- An interrupt: device, tag, answer, data. -/
abbrev Ln := Int × Int × Int × List UInt8
/-- A state: the masks, and what is pending. -/
abbrev St := List Bool × List Ln

def device (n : Int) : Bool := decide (1 ≤ n) && decide (n ≤ 4)
def proper (x : Ln) : Bool := device x.1 && (decide (0 ≤ x.2.1) && decide (x.2.2.2.length ≤ 128))
/-- Two have the same device and tag. -/
def twin (x y : Ln) : Bool := decide (y.1 = x.1) && decide (y.2.1 = x.2.1)
def pend (l : List Ln) (x : Ln) : Bool := l.any (twin x)
def okAll (l : List Ln) : Bool := (List.range l.length).all fun k => proper (l.getD k (0, 0, 0, [])) && !pend (l.take k) (l.getD k (0, 0, 0, []))
def valid (s : St) : Bool := okAll s.2 && (decide (s.2.length ≤ 32) && !s.1.getD 0 false)
def nomask : List Bool := [false, false, false, false, false]
def zst : St := (nomask, [])
def zln : Ln := (0, 0, 0, [])
def raise (s : St) (x : Ln) : St × Int :=
  if valid s = false then (zst, 1) else if proper x = false then (zst, 2) else if pend s.2 x = true then (zst, 19) else if s.2.length = 32 then (zst, 6) else ((s.1, s.2 ++ [x]), 0)
/-- The test that Take asks. -/
def free (m : List Bool) (x : Ln) : Bool := !m.getD x.1.toNat false
def take (s : St) : St × Ln × Bool :=
  if valid s = false then (zst, zln, false) else match s.2.findIdx? (free s.1) with
    | some i => ((s.1, s.2.eraseIdx i), s.2.getD i zln, true)
    | none => (zst, zln, false)
def mask (s : St) (n : Int) (on : Bool) : St × Int :=
  if valid s = false then (zst, 1) else if device n = false then (zst, 2) else ((s.1.set n.toNat on, s.2), 0)
def driver (n : Int) : Int × Bool := if n = 1 then (7, true) else if n = 2 then (8, true) else if n = 3 then (9, true) else if n = 4 then (10, true) else (0, false)
def few (s : St) : Bool := decide (∀ x ∈ s.2, x.2.2.2.length ≤ 300) && decide (s.2.length ≤ 40)

theorem getD_at {α : Type} {l : List α} {k : Nat} (z : α) (h : k < l.length) : l.getD k z = l[k] := by simp [List.getD, h]

theorem pend_snoc (l : List Ln) (y x : Ln) : pend (l ++ [y]) x = (pend l x || twin x y) := by unfold pend; simp

theorem okAll_iff {l : List Ln} : okAll l = true ↔ ∀ k (h : k < l.length), proper l[k] = true ∧ pend (l.take k) l[k] = false := by
  unfold okAll
  rw [List.all_eq_true]
  constructor
  · intro h k hk
    have := h k (by simpa using hk)
    rw [Bool.and_eq_true, Bool.not_eq_true', getD_at _ hk] at this
    exact this
  · intro h k hk
    have hk' : k < l.length := by simpa using hk
    rw [Bool.and_eq_true, Bool.not_eq_true', getD_at _ hk']
    exact h k hk'

theorem okAll_bad {l : List Ln} {k : Nat} (h : k < l.length) (hp : proper l[k] = false ∨ pend (l.take k) l[k] = true) : okAll l = false := by
  rw [Bool.eq_false_iff]
  intro e
  have := okAll_iff.1 e k h
  rcases hp with hp | hp
  · rw [hp] at this; simp at this
  · rw [hp] at this; simp at this

theorem valid_bad {m : List Bool} {l : List Ln} {k : Nat} (h : k < l.length) (hp : proper l[k] = false ∨ pend (l.take k) l[k] = true) : valid (m, l) = false := by
  unfold valid; rw [okAll_bad h hp]; rfl

theorem valid_iff {s : St} : valid s = true ↔ okAll s.2 = true ∧ s.2.length ≤ 32 ∧ s.1.getD 0 false = false := by
  unfold valid
  rw [Bool.and_eq_true, Bool.and_eq_true, decide_eq_true_iff, Bool.not_eq_true']

theorem proper_iff {x : Ln} : proper x = true ↔ 1 ≤ x.1 ∧ x.1 ≤ 4 ∧ 0 ≤ x.2.1 ∧ x.2.2.2.length ≤ 128 := by
  unfold proper device
  simp [Bool.and_eq_true, and_assoc]

theorem few_iff {s : St} : few s = true ↔ (∀ k (h : k < s.2.length), s.2[k].2.2.2.length ≤ 300) ∧ s.2.length ≤ 40 := by
  unfold few
  rw [Bool.and_eq_true, decide_eq_true_iff, decide_eq_true_iff]
  constructor
  · rintro ⟨h1, h2⟩; exact ⟨fun k h => h1 _ (List.getElem_mem h), h2⟩
  · rintro ⟨h1, h2⟩; exact ⟨fun x hx => by obtain ⟨k, hk, rfl⟩ := List.getElem_of_mem hx; exact h1 k hk, h2⟩

theorem proper_bd {s : St} (h : valid s = true) (k : Nat) (hk : k < s.2.length) : 1 ≤ s.2[k].1 ∧ s.2[k].1 ≤ 4 ∧ 0 ≤ s.2[k].2.1 ∧ s.2[k].2.2.2.length ≤ 128 :=
  proper_iff.1 (okAll_iff.1 (valid_iff.1 h).1 k hk).1
end Iq
