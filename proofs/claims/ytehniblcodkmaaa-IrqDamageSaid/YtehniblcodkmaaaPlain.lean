/-
  Plain: what the laws ask of interrupts. No program is named here.
-/
import Derived.Test.YtehniblcodkmaaaSpec
namespace Iq

theorem valid_nil {m : List Bool} (h : m.getD 0 false = false) : valid (m, []) = true := by
  rw [valid_iff]
  exact ⟨rfl, by simp, h⟩

theorem valid_one {m : List Bool} {x : Ln} (h : m.getD 0 false = false) (hx : proper x = true) : valid (m, [x]) = true := by
  rw [valid_iff]
  refine ⟨okAll_iff.2 fun k hk => ?_, by simp, h⟩
  have : k = 0 := by simp at hk; omega
  subst this
  exact ⟨hx, rfl⟩

theorem raise_ok {m : List Bool} {l : List Ln} {x : Ln} (hv : valid (m, l) = true) (hx : proper x = true) (hp : pend l x = false) (hl : l.length < 32) : raise (m, l) x = ((m, l ++ [x]), 0) := by
  unfold raise
  simp only [hv, hx, hp]
  simp
  omega

theorem raise_dup {m : List Bool} {l : List Ln} {x : Ln} (hv : valid (m, l) = true) (hx : proper x = true) (hp : pend l x = true) : raise (m, l) x = (zst, 19) := by
  unfold raise
  simp only [hv, hx, hp]
  simp

theorem take_first {m : List Bool} {x : Ln} (hv : valid (m, [x]) = true) (hf : free m x = true) : take (m, [x]) = ((m, []), x, true) := by
  unfold take
  simp only [hv]
  simp [List.findIdx?_cons, hf]

theorem free_nomask (x : Ln) : free nomask x = true := by
  have h : ∀ k, nomask.getD k false = false := fun k => by
    match k with
    | 0 => rfl
    | 1 => rfl
    | 2 => rfl
    | 3 => rfl
    | 4 => rfl
    | k + 5 => simp [nomask, List.getD]
  unfold free
  rw [h]
  rfl

theorem proper_ans {d t n n' : Int} {xs : List UInt8} : proper (d, t, n, xs) = proper (d, t, n', xs) := rfl
theorem twin_self (d t n n' : Int) (xs ys : List UInt8) : twin (d, t, n, xs) (d, t, n', ys) = true := by unfold twin; simp
end Iq
