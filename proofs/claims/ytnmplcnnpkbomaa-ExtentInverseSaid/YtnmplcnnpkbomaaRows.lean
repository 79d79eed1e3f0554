/-
  No cell of these rows narrows 'for every input' (looked for: loops, veiled, ifaces, maps, wideKeys, modest, calm, conditions, laid).
  DERIVED. THE GIVEN ROWS OF THIS SEAT. 7 by the template 'for every input the law returns true; each argument reads behind the call as it read before'; 0 by the template 'total and deterministic' (their statements: YtnmplcnnpkbomaaTotals.lean).
  GIVEN WITH THE SEED: the statements are not yours to turn. If you find one false, say at which input.
  Laid BY PROGRAM, IN A SANDBOX (cutbox-rows.mjs): the forced cells as the released guide's own fill.sh prints them over the translation 0979f155bfd0ada6… (all of the seat's roots in one cut). By AI agents, Wed Nov 11 2026. No macro, syntax, notation, axiom, sorry.
-/
import Derived.Test.YtnmplcnnpkbomaaChecked
import GoSem.Claim
import GoSem.ClaimJoined
import GoSem.ClaimMapViews
import Derived.JoinedTies
import Derived.KernelRfl
namespace Go.Proofs.Ytnmplcnnpkbomaa
/- THE CELL 'sum', in the pinned program and in every row, IS THE sha256 OF THE DUMP (.gsa) THAT YtnmplcnnpkbomaaProg.lean LOADS. Nothing in Lean hashes anything: it is a label: what it is worth is what the hold of that sum in a sandbox is worth. -/
noncomputable def Try.pinned : Pinned := { name := "ytnmplcnnpkbomaa", sum := "0979f155bfd0ada6256d8a14118b8cd1e3abba90eb05df49dadf1941e87347f4", checked := Try.checked }
namespace Rows
def none {H : Type} : Left H := { results := [], args := [] }

/-- 'ratoonlaw07.ExtentAlloc': WHATEVER THE INPUT: true; the input reads as it did. -/
def extentAllocSpec : ChangeSpec := { name := "extentAlloc", fn := fun _ => fun
  | [d1, d2, d3] => { results := [.lit (.bool true)], args := [d1, d2, d3] }
  | _ => none }
def extentAllocRow : OpenClaim := { program := "ytnmplcnnpkbomaa", sum := "0979f155bfd0ada6256d8a14118b8cd1e3abba90eb05df49dadf1941e87347f4", func := "ratoon/ratoonlaw07.ExtentAlloc", spec := "extentAlloc", apart := false }
def ExtentAllocSaid : Prop := extentAllocRow.holds Try.pinned (OpenSpec.ofChange extentAllocSpec)

/-- ITS FALSE NEIGHBOUR: 'it returns false'. Refute it at one input. -/
def extentAllocWrong : ChangeSpec := { name := "extentAlloc", fn := fun _ => fun
  | [d1, d2, d3] => { results := [.lit (.bool false)], args := [d1, d2, d3] }
  | _ => none }
def ExtentAllocWrongFalsely : Prop := extentAllocRow.holds Try.pinned (OpenSpec.ofChange extentAllocWrong)

/-- 'ratoonlaw07.ExtentTake': WHATEVER THE INPUT: true; the input reads as it did. -/
def extentTakeSpec : ChangeSpec := { name := "extentTake", fn := fun _ => fun
  | [d1, d2, d3] => { results := [.lit (.bool true)], args := [d1, d2, d3] }
  | _ => none }
def extentTakeRow : OpenClaim := { program := "ytnmplcnnpkbomaa", sum := "0979f155bfd0ada6256d8a14118b8cd1e3abba90eb05df49dadf1941e87347f4", func := "ratoon/ratoonlaw07.ExtentTake", spec := "extentTake", apart := false }
def ExtentTakeSaid : Prop := extentTakeRow.holds Try.pinned (OpenSpec.ofChange extentTakeSpec)

/-- ITS FALSE NEIGHBOUR: 'it returns false'. Refute it at one input. -/
def extentTakeWrong : ChangeSpec := { name := "extentTake", fn := fun _ => fun
  | [d1, d2, d3] => { results := [.lit (.bool false)], args := [d1, d2, d3] }
  | _ => none }
def ExtentTakeWrongFalsely : Prop := extentTakeRow.holds Try.pinned (OpenSpec.ofChange extentTakeWrong)

/-- 'ratoonlaw07.ExtentFirst': WHATEVER THE INPUT: true; the input reads as it did. -/
def extentFirstSpec : ChangeSpec := { name := "extentFirst", fn := fun _ => fun
  | [d1, d2, d3] => { results := [.lit (.bool true)], args := [d1, d2, d3] }
  | _ => none }
def extentFirstRow : OpenClaim := { program := "ytnmplcnnpkbomaa", sum := "0979f155bfd0ada6256d8a14118b8cd1e3abba90eb05df49dadf1941e87347f4", func := "ratoon/ratoonlaw07.ExtentFirst", spec := "extentFirst", apart := false }
def ExtentFirstSaid : Prop := extentFirstRow.holds Try.pinned (OpenSpec.ofChange extentFirstSpec)

/-- ITS FALSE NEIGHBOUR: 'it returns false'. Refute it at one input. -/
def extentFirstWrong : ChangeSpec := { name := "extentFirst", fn := fun _ => fun
  | [d1, d2, d3] => { results := [.lit (.bool false)], args := [d1, d2, d3] }
  | _ => none }
def ExtentFirstWrongFalsely : Prop := extentFirstRow.holds Try.pinned (OpenSpec.ofChange extentFirstWrong)

/-- 'ratoonlaw07.ExtentRelease': WHATEVER THE INPUT: true; the input reads as it did. -/
def extentReleaseSpec : ChangeSpec := { name := "extentRelease", fn := fun _ => fun
  | [d1, d2] => { results := [.lit (.bool true)], args := [d1, d2] }
  | _ => none }
def extentReleaseRow : OpenClaim := { program := "ytnmplcnnpkbomaa", sum := "0979f155bfd0ada6256d8a14118b8cd1e3abba90eb05df49dadf1941e87347f4", func := "ratoon/ratoonlaw07.ExtentRelease", spec := "extentRelease", apart := false }
def ExtentReleaseSaid : Prop := extentReleaseRow.holds Try.pinned (OpenSpec.ofChange extentReleaseSpec)

/-- ITS FALSE NEIGHBOUR: 'it returns false'. Refute it at one input. -/
def extentReleaseWrong : ChangeSpec := { name := "extentRelease", fn := fun _ => fun
  | [d1, d2] => { results := [.lit (.bool false)], args := [d1, d2] }
  | _ => none }
def ExtentReleaseWrongFalsely : Prop := extentReleaseRow.holds Try.pinned (OpenSpec.ofChange extentReleaseWrong)

/-- 'ratoonlaw07.ExtentBits': WHATEVER THE INPUT: true; the input reads as it did. -/
def extentBitsSpec : ChangeSpec := { name := "extentBits", fn := fun _ => fun
  | [d1, d2, d3] => { results := [.lit (.bool true)], args := [d1, d2, d3] }
  | _ => none }
def extentBitsRow : OpenClaim := { program := "ytnmplcnnpkbomaa", sum := "0979f155bfd0ada6256d8a14118b8cd1e3abba90eb05df49dadf1941e87347f4", func := "ratoon/ratoonlaw07.ExtentBits", spec := "extentBits", apart := false }
def ExtentBitsSaid : Prop := extentBitsRow.holds Try.pinned (OpenSpec.ofChange extentBitsSpec)

/-- ITS FALSE NEIGHBOUR: 'it returns false'. Refute it at one input. -/
def extentBitsWrong : ChangeSpec := { name := "extentBits", fn := fun _ => fun
  | [d1, d2, d3] => { results := [.lit (.bool false)], args := [d1, d2, d3] }
  | _ => none }
def ExtentBitsWrongFalsely : Prop := extentBitsRow.holds Try.pinned (OpenSpec.ofChange extentBitsWrong)

/-- 'ratoonlaw07.ExtentInverse': WHATEVER THE INPUT: true; the input reads as it did. -/
def extentInverseSpec : ChangeSpec := { name := "extentInverse", fn := fun _ => fun
  | [d1, d2] => { results := [.lit (.bool true)], args := [d1, d2] }
  | _ => none }
def extentInverseRow : OpenClaim := { program := "ytnmplcnnpkbomaa", sum := "0979f155bfd0ada6256d8a14118b8cd1e3abba90eb05df49dadf1941e87347f4", func := "ratoon/ratoonlaw07.ExtentInverse", spec := "extentInverse", apart := false }
def ExtentInverseSaid : Prop := extentInverseRow.holds Try.pinned (OpenSpec.ofChange extentInverseSpec)

/-- ITS FALSE NEIGHBOUR: 'it returns false'. Refute it at one input. -/
def extentInverseWrong : ChangeSpec := { name := "extentInverse", fn := fun _ => fun
  | [d1, d2] => { results := [.lit (.bool false)], args := [d1, d2] }
  | _ => none }
def ExtentInverseWrongFalsely : Prop := extentInverseRow.holds Try.pinned (OpenSpec.ofChange extentInverseWrong)

/-- 'ratoonlaw07.ExtentSpace': WHATEVER THE INPUT: true; the input reads as it did. -/
def extentSpaceSpec : ChangeSpec := { name := "extentSpace", fn := fun _ => fun
  | [d1, d2, d3] => { results := [.lit (.bool true)], args := [d1, d2, d3] }
  | _ => none }
def extentSpaceRow : OpenClaim := { program := "ytnmplcnnpkbomaa", sum := "0979f155bfd0ada6256d8a14118b8cd1e3abba90eb05df49dadf1941e87347f4", func := "ratoon/ratoonlaw07.ExtentSpace", spec := "extentSpace", apart := false }
def ExtentSpaceSaid : Prop := extentSpaceRow.holds Try.pinned (OpenSpec.ofChange extentSpaceSpec)

/-- ITS FALSE NEIGHBOUR: 'it returns false'. Refute it at one input. -/
def extentSpaceWrong : ChangeSpec := { name := "extentSpace", fn := fun _ => fun
  | [d1, d2, d3] => { results := [.lit (.bool false)], args := [d1, d2, d3] }
  | _ => none }
def ExtentSpaceWrongFalsely : Prop := extentSpaceRow.holds Try.pinned (OpenSpec.ofChange extentSpaceWrong)

/- THE SECOND FORM. 'bulk': how many values and letters a reading holds, each counted each time it is reached (what is shared counts as often as it is met; a slice's spare places count too). A statement '..UptoSaid' is the law's where the arguments, and the package variables that the reading takes, are together of bulk at most 1048576: NARROWER than '..Said'. Prove '..Said' where nothing that the law and all that it calls make is longer than what came in: it says more and counts as full. Else prove '..UptoSaid'. A law counts once. -/
mutual
def uptoBulk {H : Type} : DataW H → Nat
  | .lit (.string bytes) => bytes.length + 1
  | .lit _ => 1
  | .nil => 1
  | .ptr d => uptoBulk d + 1
  | .slice elems spare => uptoBulkAll elems + uptoBulkAll spare + 1
  | .agg parts => uptoBulkAll parts + 1
  | .iface _ d => uptoBulk d + 1
  | .map entries => uptoBulkEntries entries + 1
  | .held _ => 1
def uptoBulkAll {H : Type} : List (DataW H) → Nat
  | [] => 0
  | d :: r => uptoBulk d + uptoBulkAll r
def uptoBulkEntries {H : Type} : List (Lit × DataW H) → Nat
  | [] => 0
  | x :: r => uptoBulkEntry x + uptoBulkEntries r
def uptoBulkEntry {H : Type} : Lit × DataW H → Nat
  | (.string bytes, d) => bytes.length + uptoBulk d + 1
  | (_, d) => uptoBulk d + 1
 end
def uptoSmall : (H : Type) → List (DataW H) → Bool := fun _ ds => decide (uptoBulkAll ds ≤ 1048576)
def OpenSpec.upto (s : _root_.Go.ChangeSpec) : _root_.Go.OpenSpec := { _root_.Go.OpenSpec.ofChange s with cond := some uptoSmall }

/-- 'ratoonlaw07.ExtentAlloc', WHERE WHAT IT READS IS OF BULK AT MOST 1048576: true; the input reads as it did. -/
def extentAllocUptoRow : OpenClaim := { program := "ytnmplcnnpkbomaa", sum := "0979f155bfd0ada6256d8a14118b8cd1e3abba90eb05df49dadf1941e87347f4", func := "ratoon/ratoonlaw07.ExtentAlloc", spec := "extentAlloc", apart := false, narrowed := true }
def ExtentAllocUptoSaid : Prop := extentAllocUptoRow.holds Try.pinned (OpenSpec.upto extentAllocSpec)

/-- 'ratoonlaw07.ExtentTake', WHERE WHAT IT READS IS OF BULK AT MOST 1048576: true; the input reads as it did. -/
def extentTakeUptoRow : OpenClaim := { program := "ytnmplcnnpkbomaa", sum := "0979f155bfd0ada6256d8a14118b8cd1e3abba90eb05df49dadf1941e87347f4", func := "ratoon/ratoonlaw07.ExtentTake", spec := "extentTake", apart := false, narrowed := true }
def ExtentTakeUptoSaid : Prop := extentTakeUptoRow.holds Try.pinned (OpenSpec.upto extentTakeSpec)

/-- 'ratoonlaw07.ExtentFirst', WHERE WHAT IT READS IS OF BULK AT MOST 1048576: true; the input reads as it did. -/
def extentFirstUptoRow : OpenClaim := { program := "ytnmplcnnpkbomaa", sum := "0979f155bfd0ada6256d8a14118b8cd1e3abba90eb05df49dadf1941e87347f4", func := "ratoon/ratoonlaw07.ExtentFirst", spec := "extentFirst", apart := false, narrowed := true }
def ExtentFirstUptoSaid : Prop := extentFirstUptoRow.holds Try.pinned (OpenSpec.upto extentFirstSpec)

/-- 'ratoonlaw07.ExtentRelease', WHERE WHAT IT READS IS OF BULK AT MOST 1048576: true; the input reads as it did. -/
def extentReleaseUptoRow : OpenClaim := { program := "ytnmplcnnpkbomaa", sum := "0979f155bfd0ada6256d8a14118b8cd1e3abba90eb05df49dadf1941e87347f4", func := "ratoon/ratoonlaw07.ExtentRelease", spec := "extentRelease", apart := false, narrowed := true }
def ExtentReleaseUptoSaid : Prop := extentReleaseUptoRow.holds Try.pinned (OpenSpec.upto extentReleaseSpec)

/-- 'ratoonlaw07.ExtentBits', WHERE WHAT IT READS IS OF BULK AT MOST 1048576: true; the input reads as it did. -/
def extentBitsUptoRow : OpenClaim := { program := "ytnmplcnnpkbomaa", sum := "0979f155bfd0ada6256d8a14118b8cd1e3abba90eb05df49dadf1941e87347f4", func := "ratoon/ratoonlaw07.ExtentBits", spec := "extentBits", apart := false, narrowed := true }
def ExtentBitsUptoSaid : Prop := extentBitsUptoRow.holds Try.pinned (OpenSpec.upto extentBitsSpec)

/-- 'ratoonlaw07.ExtentInverse', WHERE WHAT IT READS IS OF BULK AT MOST 1048576: true; the input reads as it did. -/
def extentInverseUptoRow : OpenClaim := { program := "ytnmplcnnpkbomaa", sum := "0979f155bfd0ada6256d8a14118b8cd1e3abba90eb05df49dadf1941e87347f4", func := "ratoon/ratoonlaw07.ExtentInverse", spec := "extentInverse", apart := false, narrowed := true }
def ExtentInverseUptoSaid : Prop := extentInverseUptoRow.holds Try.pinned (OpenSpec.upto extentInverseSpec)

/-- 'ratoonlaw07.ExtentSpace', WHERE WHAT IT READS IS OF BULK AT MOST 1048576: true; the input reads as it did. -/
def extentSpaceUptoRow : OpenClaim := { program := "ytnmplcnnpkbomaa", sum := "0979f155bfd0ada6256d8a14118b8cd1e3abba90eb05df49dadf1941e87347f4", func := "ratoon/ratoonlaw07.ExtentSpace", spec := "extentSpace", apart := false, narrowed := true }
def ExtentSpaceUptoSaid : Prop := extentSpaceUptoRow.holds Try.pinned (OpenSpec.upto extentSpaceSpec)

end Rows
end Go.Proofs.Ytnmplcnnpkbomaa
