/-
  No cell of these rows narrows 'for every input' (looked for: loops, veiled, ifaces, maps, wideKeys, modest, calm, conditions, laid).
  DERIVED. THE GIVEN ROWS OF THIS SEAT. 8 by the template 'for every input the law returns true; each argument reads behind the call as it read before'; 0 by the template 'total and deterministic' (their statements: YtbklmpekpcneeaaTotals.lean).
  GIVEN WITH THE SEED: the statements are not yours to turn. If you find one false, say at which input.
  Laid BY PROGRAM, IN A SANDBOX (cutbox-rows.mjs): the forced cells as the released guide's own fill.sh prints them over the translation d1eaff5cd4965809… (all of the seat's roots in one cut). By AI agents, Wed Nov 11 2026. No macro, syntax, notation, axiom, sorry.
-/
import Derived.Test.YtbklmpekpcneeaaChecked
import GoSem.Claim
import GoSem.ClaimJoined
import GoSem.ClaimMapViews
import Derived.JoinedTies
import Derived.KernelRfl
namespace Go.Proofs.Ytbklmpekpcneeaa
/- THE CELL 'sum', in the pinned program and in every row, IS THE sha256 OF THE DUMP (.gsa) THAT YtbklmpekpcneeaaProg.lean LOADS. Nothing in Lean hashes anything: it is a label: what it is worth is what the hold of that sum in a sandbox is worth. -/
noncomputable def Try.pinned : Pinned := { name := "ytbklmpekpcneeaa", sum := "d1eaff5cd49658094ba5b66e763ac4e13f5a9874aa263bf9d1d142b5dd049d40", checked := Try.checked }
namespace Rows
def none {H : Type} : Left H := { results := [], args := [] }

/-- 'ratoonlaw37.InodesTruncate': WHATEVER THE INPUT: true; the input reads as it did. -/
def inodesTruncateSpec : ChangeSpec := { name := "inodesTruncate", fn := fun _ => fun
  | [d1, d2, d3] => { results := [.lit (.bool true)], args := [d1, d2, d3] }
  | _ => none }
def inodesTruncateRow : OpenClaim := { program := "ytbklmpekpcneeaa", sum := "d1eaff5cd49658094ba5b66e763ac4e13f5a9874aa263bf9d1d142b5dd049d40", func := "ratoon/ratoonlaw37.InodesTruncate", spec := "inodesTruncate", unfollowed := true, recurses := true, apart := false }
def InodesTruncateSaid : Prop := inodesTruncateRow.holds Try.pinned (OpenSpec.ofChange inodesTruncateSpec)

/-- ITS FALSE NEIGHBOUR: 'it returns false'. Refute it at one input. -/
def inodesTruncateWrong : ChangeSpec := { name := "inodesTruncate", fn := fun _ => fun
  | [d1, d2, d3] => { results := [.lit (.bool false)], args := [d1, d2, d3] }
  | _ => none }
def InodesTruncateWrongFalsely : Prop := inodesTruncateRow.holds Try.pinned (OpenSpec.ofChange inodesTruncateWrong)

/-- 'ratoonlaw37.InodesCheck': WHATEVER THE INPUT: true; the input reads as it did. -/
def inodesCheckSpec : ChangeSpec := { name := "inodesCheck", fn := fun _ => fun
  | [d1, d2, d3] => { results := [.lit (.bool true)], args := [d1, d2, d3] }
  | _ => none }
def inodesCheckRow : OpenClaim := { program := "ytbklmpekpcneeaa", sum := "d1eaff5cd49658094ba5b66e763ac4e13f5a9874aa263bf9d1d142b5dd049d40", func := "ratoon/ratoonlaw37.InodesCheck", spec := "inodesCheck", unfollowed := true, recurses := true, apart := false }
def InodesCheckSaid : Prop := inodesCheckRow.holds Try.pinned (OpenSpec.ofChange inodesCheckSpec)

/-- ITS FALSE NEIGHBOUR: 'it returns false'. Refute it at one input. -/
def inodesCheckWrong : ChangeSpec := { name := "inodesCheck", fn := fun _ => fun
  | [d1, d2, d3] => { results := [.lit (.bool false)], args := [d1, d2, d3] }
  | _ => none }
def InodesCheckWrongFalsely : Prop := inodesCheckRow.holds Try.pinned (OpenSpec.ofChange inodesCheckWrong)

/-- 'ratoonlaw37.InodesRead': WHATEVER THE INPUT: true; the input reads as it did. -/
def inodesReadSpec : ChangeSpec := { name := "inodesRead", fn := fun _ => fun
  | [d1, d2, d3] => { results := [.lit (.bool true)], args := [d1, d2, d3] }
  | _ => none }
def inodesReadRow : OpenClaim := { program := "ytbklmpekpcneeaa", sum := "d1eaff5cd49658094ba5b66e763ac4e13f5a9874aa263bf9d1d142b5dd049d40", func := "ratoon/ratoonlaw37.InodesRead", spec := "inodesRead", unfollowed := true, recurses := true, apart := false }
def InodesReadSaid : Prop := inodesReadRow.holds Try.pinned (OpenSpec.ofChange inodesReadSpec)

/-- ITS FALSE NEIGHBOUR: 'it returns false'. Refute it at one input. -/
def inodesReadWrong : ChangeSpec := { name := "inodesRead", fn := fun _ => fun
  | [d1, d2, d3] => { results := [.lit (.bool false)], args := [d1, d2, d3] }
  | _ => none }
def InodesReadWrongFalsely : Prop := inodesReadRow.holds Try.pinned (OpenSpec.ofChange inodesReadWrong)

/-- 'ratoonlaw37.InodesContent': WHATEVER THE INPUT: true; the input reads as it did. -/
def inodesContentSpec : ChangeSpec := { name := "inodesContent", fn := fun _ => fun
  | [d1, d2] => { results := [.lit (.bool true)], args := [d1, d2] }
  | _ => none }
def inodesContentRow : OpenClaim := { program := "ytbklmpekpcneeaa", sum := "d1eaff5cd49658094ba5b66e763ac4e13f5a9874aa263bf9d1d142b5dd049d40", func := "ratoon/ratoonlaw37.InodesContent", spec := "inodesContent", unfollowed := true, recurses := true, apart := false }
def InodesContentSaid : Prop := inodesContentRow.holds Try.pinned (OpenSpec.ofChange inodesContentSpec)

/-- ITS FALSE NEIGHBOUR: 'it returns false'. Refute it at one input. -/
def inodesContentWrong : ChangeSpec := { name := "inodesContent", fn := fun _ => fun
  | [d1, d2] => { results := [.lit (.bool false)], args := [d1, d2] }
  | _ => none }
def InodesContentWrongFalsely : Prop := inodesContentRow.holds Try.pinned (OpenSpec.ofChange inodesContentWrong)

/-- 'ratoonlaw37.InodesFew': WHATEVER THE INPUT: true; the input reads as it did. -/
def inodesFewSpec : ChangeSpec := { name := "inodesFew", fn := fun _ => fun
  | [d1, d2, d3] => { results := [.lit (.bool true)], args := [d1, d2, d3] }
  | _ => none }
def inodesFewRow : OpenClaim := { program := "ytbklmpekpcneeaa", sum := "d1eaff5cd49658094ba5b66e763ac4e13f5a9874aa263bf9d1d142b5dd049d40", func := "ratoon/ratoonlaw37.InodesFew", spec := "inodesFew", unfollowed := true, recurses := true, apart := false }
def InodesFewSaid : Prop := inodesFewRow.holds Try.pinned (OpenSpec.ofChange inodesFewSpec)

/-- ITS FALSE NEIGHBOUR: 'it returns false'. Refute it at one input. -/
def inodesFewWrong : ChangeSpec := { name := "inodesFew", fn := fun _ => fun
  | [d1, d2, d3] => { results := [.lit (.bool false)], args := [d1, d2, d3] }
  | _ => none }
def InodesFewWrongFalsely : Prop := inodesFewRow.holds Try.pinned (OpenSpec.ofChange inodesFewWrong)

/-- 'ratoonlaw37.InodesChange': WHATEVER THE INPUT: true; the input reads as it did. -/
def inodesChangeSpec : ChangeSpec := { name := "inodesChange", fn := fun _ => fun
  | [d1, d2, d3] => { results := [.lit (.bool true)], args := [d1, d2, d3] }
  | _ => none }
def inodesChangeRow : OpenClaim := { program := "ytbklmpekpcneeaa", sum := "d1eaff5cd49658094ba5b66e763ac4e13f5a9874aa263bf9d1d142b5dd049d40", func := "ratoon/ratoonlaw37.InodesChange", spec := "inodesChange", unfollowed := true, recurses := true, apart := false }
def InodesChangeSaid : Prop := inodesChangeRow.holds Try.pinned (OpenSpec.ofChange inodesChangeSpec)

/-- ITS FALSE NEIGHBOUR: 'it returns false'. Refute it at one input. -/
def inodesChangeWrong : ChangeSpec := { name := "inodesChange", fn := fun _ => fun
  | [d1, d2, d3] => { results := [.lit (.bool false)], args := [d1, d2, d3] }
  | _ => none }
def InodesChangeWrongFalsely : Prop := inodesChangeRow.holds Try.pinned (OpenSpec.ofChange inodesChangeWrong)

/-- 'ratoonlaw37.InodesEmpty': WHATEVER THE INPUT: true; the input reads as it did. -/
def inodesEmptySpec : ChangeSpec := { name := "inodesEmpty", fn := fun _ => fun
  | [d] => { results := [.lit (.bool true)], args := [d] }
  | _ => none }
def inodesEmptyRow : OpenClaim := { program := "ytbklmpekpcneeaa", sum := "d1eaff5cd49658094ba5b66e763ac4e13f5a9874aa263bf9d1d142b5dd049d40", func := "ratoon/ratoonlaw37.InodesEmpty", spec := "inodesEmpty", unfollowed := true, recurses := true, apart := false }
def InodesEmptySaid : Prop := inodesEmptyRow.holds Try.pinned (OpenSpec.ofChange inodesEmptySpec)

/-- ITS FALSE NEIGHBOUR: 'it returns false'. Refute it at one input. -/
def inodesEmptyWrong : ChangeSpec := { name := "inodesEmpty", fn := fun _ => fun
  | [d] => { results := [.lit (.bool false)], args := [d] }
  | _ => none }
def InodesEmptyWrongFalsely : Prop := inodesEmptyRow.holds Try.pinned (OpenSpec.ofChange inodesEmptyWrong)

/-- 'ratoonlaw37.InodesAlloc': WHATEVER THE INPUT: true; the input reads as it did. -/
def inodesAllocSpec : ChangeSpec := { name := "inodesAlloc", fn := fun _ => fun
  | [d1, d2] => { results := [.lit (.bool true)], args := [d1, d2] }
  | _ => none }
def inodesAllocRow : OpenClaim := { program := "ytbklmpekpcneeaa", sum := "d1eaff5cd49658094ba5b66e763ac4e13f5a9874aa263bf9d1d142b5dd049d40", func := "ratoon/ratoonlaw37.InodesAlloc", spec := "inodesAlloc", unfollowed := true, recurses := true, apart := false }
def InodesAllocSaid : Prop := inodesAllocRow.holds Try.pinned (OpenSpec.ofChange inodesAllocSpec)

/-- ITS FALSE NEIGHBOUR: 'it returns false'. Refute it at one input. -/
def inodesAllocWrong : ChangeSpec := { name := "inodesAlloc", fn := fun _ => fun
  | [d1, d2] => { results := [.lit (.bool false)], args := [d1, d2] }
  | _ => none }
def InodesAllocWrongFalsely : Prop := inodesAllocRow.holds Try.pinned (OpenSpec.ofChange inodesAllocWrong)

/- THE SECOND FORM. 'bulk': how many values and letters a reading holds, each counted each time it is reached (what is shared counts as often as it is met; a slice's spare places count too). A statement '..UptoSaid' is the law's where the arguments, and the package variables that the reading takes, are together of bulk at most 1048576: NARROWER than '..Said'. Prove '..Said' where nothing that the law and all that it calls make is longer than what came in: it says more and counts as full. Else prove '..UptoSaid'. A law counts once. -/
mutual
def uptoBulk {H : Type} : DataW H → Nat
  | .lit (.string bytes) => bytes.length + 1
  | .lit _ => 1
  | .nil => 1
  | .ptr d => uptoBulk d + 1
  | .slice elems spare => uptoBulkAll elems + uptoBulkAll spare + 1
  | .agg parts => uptoBulkAll parts + 1
  | .iface _ d => uptoBulk d + 1
  | .map entries => uptoBulkEntries entries + 1
  | .held _ => 1
def uptoBulkAll {H : Type} : List (DataW H) → Nat
  | [] => 0
  | d :: r => uptoBulk d + uptoBulkAll r
def uptoBulkEntries {H : Type} : List (Lit × DataW H) → Nat
  | [] => 0
  | x :: r => uptoBulkEntry x + uptoBulkEntries r
def uptoBulkEntry {H : Type} : Lit × DataW H → Nat
  | (.string bytes, d) => bytes.length + uptoBulk d + 1
  | (_, d) => uptoBulk d + 1
 end
def uptoSmall : (H : Type) → List (DataW H) → Bool := fun _ ds => decide (uptoBulkAll ds ≤ 1048576)
def OpenSpec.upto (s : _root_.Go.ChangeSpec) : _root_.Go.OpenSpec := { _root_.Go.OpenSpec.ofChange s with cond := some uptoSmall }

/-- 'ratoonlaw37.InodesTruncate', WHERE WHAT IT READS IS OF BULK AT MOST 1048576: true; the input reads as it did. -/
def inodesTruncateUptoRow : OpenClaim := { program := "ytbklmpekpcneeaa", sum := "d1eaff5cd49658094ba5b66e763ac4e13f5a9874aa263bf9d1d142b5dd049d40", func := "ratoon/ratoonlaw37.InodesTruncate", spec := "inodesTruncate", unfollowed := true, recurses := true, apart := false, narrowed := true }
def InodesTruncateUptoSaid : Prop := inodesTruncateUptoRow.holds Try.pinned (OpenSpec.upto inodesTruncateSpec)

/-- 'ratoonlaw37.InodesCheck', WHERE WHAT IT READS IS OF BULK AT MOST 1048576: true; the input reads as it did. -/
def inodesCheckUptoRow : OpenClaim := { program := "ytbklmpekpcneeaa", sum := "d1eaff5cd49658094ba5b66e763ac4e13f5a9874aa263bf9d1d142b5dd049d40", func := "ratoon/ratoonlaw37.InodesCheck", spec := "inodesCheck", unfollowed := true, recurses := true, apart := false, narrowed := true }
def InodesCheckUptoSaid : Prop := inodesCheckUptoRow.holds Try.pinned (OpenSpec.upto inodesCheckSpec)

/-- 'ratoonlaw37.InodesRead', WHERE WHAT IT READS IS OF BULK AT MOST 1048576: true; the input reads as it did. -/
def inodesReadUptoRow : OpenClaim := { program := "ytbklmpekpcneeaa", sum := "d1eaff5cd49658094ba5b66e763ac4e13f5a9874aa263bf9d1d142b5dd049d40", func := "ratoon/ratoonlaw37.InodesRead", spec := "inodesRead", unfollowed := true, recurses := true, apart := false, narrowed := true }
def InodesReadUptoSaid : Prop := inodesReadUptoRow.holds Try.pinned (OpenSpec.upto inodesReadSpec)

/-- 'ratoonlaw37.InodesContent', WHERE WHAT IT READS IS OF BULK AT MOST 1048576: true; the input reads as it did. -/
def inodesContentUptoRow : OpenClaim := { program := "ytbklmpekpcneeaa", sum := "d1eaff5cd49658094ba5b66e763ac4e13f5a9874aa263bf9d1d142b5dd049d40", func := "ratoon/ratoonlaw37.InodesContent", spec := "inodesContent", unfollowed := true, recurses := true, apart := false, narrowed := true }
def InodesContentUptoSaid : Prop := inodesContentUptoRow.holds Try.pinned (OpenSpec.upto inodesContentSpec)

/-- 'ratoonlaw37.InodesFew', WHERE WHAT IT READS IS OF BULK AT MOST 1048576: true; the input reads as it did. -/
def inodesFewUptoRow : OpenClaim := { program := "ytbklmpekpcneeaa", sum := "d1eaff5cd49658094ba5b66e763ac4e13f5a9874aa263bf9d1d142b5dd049d40", func := "ratoon/ratoonlaw37.InodesFew", spec := "inodesFew", unfollowed := true, recurses := true, apart := false, narrowed := true }
def InodesFewUptoSaid : Prop := inodesFewUptoRow.holds Try.pinned (OpenSpec.upto inodesFewSpec)

/-- 'ratoonlaw37.InodesChange', WHERE WHAT IT READS IS OF BULK AT MOST 1048576: true; the input reads as it did. -/
def inodesChangeUptoRow : OpenClaim := { program := "ytbklmpekpcneeaa", sum := "d1eaff5cd49658094ba5b66e763ac4e13f5a9874aa263bf9d1d142b5dd049d40", func := "ratoon/ratoonlaw37.InodesChange", spec := "inodesChange", unfollowed := true, recurses := true, apart := false, narrowed := true }
def InodesChangeUptoSaid : Prop := inodesChangeUptoRow.holds Try.pinned (OpenSpec.upto inodesChangeSpec)

/-- 'ratoonlaw37.InodesEmpty', WHERE WHAT IT READS IS OF BULK AT MOST 1048576: true; the input reads as it did. -/
def inodesEmptyUptoRow : OpenClaim := { program := "ytbklmpekpcneeaa", sum := "d1eaff5cd49658094ba5b66e763ac4e13f5a9874aa263bf9d1d142b5dd049d40", func := "ratoon/ratoonlaw37.InodesEmpty", spec := "inodesEmpty", unfollowed := true, recurses := true, apart := false, narrowed := true }
def InodesEmptyUptoSaid : Prop := inodesEmptyUptoRow.holds Try.pinned (OpenSpec.upto inodesEmptySpec)

/-- 'ratoonlaw37.InodesAlloc', WHERE WHAT IT READS IS OF BULK AT MOST 1048576: true; the input reads as it did. -/
def inodesAllocUptoRow : OpenClaim := { program := "ytbklmpekpcneeaa", sum := "d1eaff5cd49658094ba5b66e763ac4e13f5a9874aa263bf9d1d142b5dd049d40", func := "ratoon/ratoonlaw37.InodesAlloc", spec := "inodesAlloc", unfollowed := true, recurses := true, apart := false, narrowed := true }
def InodesAllocUptoSaid : Prop := inodesAllocUptoRow.holds Try.pinned (OpenSpec.upto inodesAllocSpec)

end Rows
end Go.Proofs.Ytbklmpekpcneeaa
