/-
  No cell of these rows narrows 'for every input' (looked for: loops, veiled, ifaces, maps, wideKeys, modest, calm, conditions, laid).
  DERIVED. THE GIVEN ROWS OF THIS SEAT. 6 by the template 'for every input the law returns true; each argument reads behind the call as it read before'; 0 by the template 'total and deterministic' (their statements: YteeoonoccklhmaaTotals.lean).
  GIVEN WITH THE SEED: the statements are not yours to turn. If you find one false, say at which input.
  Laid BY PROGRAM, IN A SANDBOX (cutbox-rows.mjs): the forced cells as the released guide's own fill.sh prints them over the translation 0f85478cd7da160e… (all of the seat's roots in one cut). By AI agents, Wed Nov 11 2026. No macro, syntax, notation, axiom, sorry.
-/
import Derived.Test.YteeoonoccklhmaaChecked
import GoSem.Claim
import GoSem.ClaimJoined
import GoSem.ClaimMapViews
import Derived.JoinedTies
import Derived.KernelRfl
namespace Go.Proofs.Yteeoonoccklhmaa
/- THE CELL 'sum', in the pinned program and in every row, IS THE sha256 OF THE DUMP (.gsa) THAT YteeoonoccklhmaaProg.lean LOADS. Nothing in Lean hashes anything: it is a label: what it is worth is what the hold of that sum in a sandbox is worth. -/
noncomputable def Try.pinned : Pinned := { name := "yteeoonoccklhmaa", sum := "0f85478cd7da160e92696fd46a8d85c488fd691404c6fc1090df686ed9b54c76", checked := Try.checked }
namespace Rows
def none {H : Type} : Left H := { results := [], args := [] }

/-- 'ratoonlaw11.DiskAnswers': WHATEVER THE INPUT: true; the input reads as it did. -/
def diskAnswersSpec : ChangeSpec := { name := "diskAnswers", fn := fun _ => fun
  | [d1, d2] => { results := [.lit (.bool true)], args := [d1, d2] }
  | _ => none }
def diskAnswersRow : OpenClaim := { program := "yteeoonoccklhmaa", sum := "0f85478cd7da160e92696fd46a8d85c488fd691404c6fc1090df686ed9b54c76", func := "ratoon/ratoonlaw11.DiskAnswers", spec := "diskAnswers", unfollowed := true, recurses := true, apart := false }
def DiskAnswersSaid : Prop := diskAnswersRow.holds Try.pinned (OpenSpec.ofChange diskAnswersSpec)

/-- ITS FALSE NEIGHBOUR: 'it returns false'. Refute it at one input. -/
def diskAnswersWrong : ChangeSpec := { name := "diskAnswers", fn := fun _ => fun
  | [d1, d2] => { results := [.lit (.bool false)], args := [d1, d2] }
  | _ => none }
def DiskAnswersWrongFalsely : Prop := diskAnswersRow.holds Try.pinned (OpenSpec.ofChange diskAnswersWrong)

/-- 'ratoonlaw11.DiskOld': WHATEVER THE INPUT: true; the input reads as it did. -/
def diskOldSpec : ChangeSpec := { name := "diskOld", fn := fun _ => fun
  | [d1, d2, d3] => { results := [.lit (.bool true)], args := [d1, d2, d3] }
  | _ => none }
def diskOldRow : OpenClaim := { program := "yteeoonoccklhmaa", sum := "0f85478cd7da160e92696fd46a8d85c488fd691404c6fc1090df686ed9b54c76", func := "ratoon/ratoonlaw11.DiskOld", spec := "diskOld", unfollowed := true, recurses := true, apart := false }
def DiskOldSaid : Prop := diskOldRow.holds Try.pinned (OpenSpec.ofChange diskOldSpec)

/-- ITS FALSE NEIGHBOUR: 'it returns false'. Refute it at one input. -/
def diskOldWrong : ChangeSpec := { name := "diskOld", fn := fun _ => fun
  | [d1, d2, d3] => { results := [.lit (.bool false)], args := [d1, d2, d3] }
  | _ => none }
def DiskOldWrongFalsely : Prop := diskOldRow.holds Try.pinned (OpenSpec.ofChange diskOldWrong)

/-- 'ratoonlaw11.DiskDo': WHATEVER THE INPUT: true; the input reads as it did. -/
def diskDoSpec : ChangeSpec := { name := "diskDo", fn := fun _ => fun
  | [d1, d2] => { results := [.lit (.bool true)], args := [d1, d2] }
  | _ => none }
def diskDoRow : OpenClaim := { program := "yteeoonoccklhmaa", sum := "0f85478cd7da160e92696fd46a8d85c488fd691404c6fc1090df686ed9b54c76", func := "ratoon/ratoonlaw11.DiskDo", spec := "diskDo", unfollowed := true, recurses := true, apart := false }
def DiskDoSaid : Prop := diskDoRow.holds Try.pinned (OpenSpec.ofChange diskDoSpec)

/-- ITS FALSE NEIGHBOUR: 'it returns false'. Refute it at one input. -/
def diskDoWrong : ChangeSpec := { name := "diskDo", fn := fun _ => fun
  | [d1, d2] => { results := [.lit (.bool false)], args := [d1, d2] }
  | _ => none }
def DiskDoWrongFalsely : Prop := diskDoRow.holds Try.pinned (OpenSpec.ofChange diskDoWrong)

/-- 'ratoonlaw11.DiskOnce': WHATEVER THE INPUT: true; the input reads as it did. -/
def diskOnceSpec : ChangeSpec := { name := "diskOnce", fn := fun _ => fun
  | [d1, d2, d3] => { results := [.lit (.bool true)], args := [d1, d2, d3] }
  | _ => none }
def diskOnceRow : OpenClaim := { program := "yteeoonoccklhmaa", sum := "0f85478cd7da160e92696fd46a8d85c488fd691404c6fc1090df686ed9b54c76", func := "ratoon/ratoonlaw11.DiskOnce", spec := "diskOnce", unfollowed := true, recurses := true, apart := false }
def DiskOnceSaid : Prop := diskOnceRow.holds Try.pinned (OpenSpec.ofChange diskOnceSpec)

/-- ITS FALSE NEIGHBOUR: 'it returns false'. Refute it at one input. -/
def diskOnceWrong : ChangeSpec := { name := "diskOnce", fn := fun _ => fun
  | [d1, d2, d3] => { results := [.lit (.bool false)], args := [d1, d2, d3] }
  | _ => none }
def DiskOnceWrongFalsely : Prop := diskOnceRow.holds Try.pinned (OpenSpec.ofChange diskOnceWrong)

/-- 'ratoonlaw11.DiskNew': WHATEVER THE INPUT: true; the input reads as it did. -/
def diskNewSpec : ChangeSpec := { name := "diskNew", fn := fun _ => fun
  | [d] => { results := [.lit (.bool true)], args := [d] }
  | _ => none }
def diskNewRow : OpenClaim := { program := "yteeoonoccklhmaa", sum := "0f85478cd7da160e92696fd46a8d85c488fd691404c6fc1090df686ed9b54c76", func := "ratoon/ratoonlaw11.DiskNew", spec := "diskNew", inPlace := ["internal/bytealg.MakeNoZero"], unfollowed := true, recurses := true, apart := false }
def DiskNewSaid : Prop := diskNewRow.holds Try.pinned (OpenSpec.ofChange diskNewSpec)

/-- ITS FALSE NEIGHBOUR: 'it returns false'. Refute it at one input. -/
def diskNewWrong : ChangeSpec := { name := "diskNew", fn := fun _ => fun
  | [d] => { results := [.lit (.bool false)], args := [d] }
  | _ => none }
def DiskNewWrongFalsely : Prop := diskNewRow.holds Try.pinned (OpenSpec.ofChange diskNewWrong)

/-- 'ratoonlaw11.DiskBlocks': WHATEVER THE INPUT: true; the input reads as it did. -/
def diskBlocksSpec : ChangeSpec := { name := "diskBlocks", fn := fun _ => fun
  | [d1, d2, d3] => { results := [.lit (.bool true)], args := [d1, d2, d3] }
  | _ => none }
def diskBlocksRow : OpenClaim := { program := "yteeoonoccklhmaa", sum := "0f85478cd7da160e92696fd46a8d85c488fd691404c6fc1090df686ed9b54c76", func := "ratoon/ratoonlaw11.DiskBlocks", spec := "diskBlocks", inPlace := ["internal/bytealg.MakeNoZero"], unfollowed := true, recurses := true, apart := false }
def DiskBlocksSaid : Prop := diskBlocksRow.holds Try.pinned (OpenSpec.ofChange diskBlocksSpec)

/-- ITS FALSE NEIGHBOUR: 'it returns false'. Refute it at one input. -/
def diskBlocksWrong : ChangeSpec := { name := "diskBlocks", fn := fun _ => fun
  | [d1, d2, d3] => { results := [.lit (.bool false)], args := [d1, d2, d3] }
  | _ => none }
def DiskBlocksWrongFalsely : Prop := diskBlocksRow.holds Try.pinned (OpenSpec.ofChange diskBlocksWrong)

/- THE SECOND FORM. 'bulk': how many values and letters a reading holds, each counted each time it is reached (what is shared counts as often as it is met; a slice's spare places count too). A statement '..UptoSaid' is the law's where the arguments, and the package variables that the reading takes, are together of bulk at most 1048576: NARROWER than '..Said'. Prove '..Said' where nothing that the law and all that it calls make is longer than what came in: it says more and counts as full. Else prove '..UptoSaid'. A law counts once. -/
mutual
def uptoBulk {H : Type} : DataW H → Nat
  | .lit (.string bytes) => bytes.length + 1
  | .lit _ => 1
  | .nil => 1
  | .ptr d => uptoBulk d + 1
  | .slice elems spare => uptoBulkAll elems + uptoBulkAll spare + 1
  | .agg parts => uptoBulkAll parts + 1
  | .iface _ d => uptoBulk d + 1
  | .map entries => uptoBulkEntries entries + 1
  | .held _ => 1
def uptoBulkAll {H : Type} : List (DataW H) → Nat
  | [] => 0
  | d :: r => uptoBulk d + uptoBulkAll r
def uptoBulkEntries {H : Type} : List (Lit × DataW H) → Nat
  | [] => 0
  | x :: r => uptoBulkEntry x + uptoBulkEntries r
def uptoBulkEntry {H : Type} : Lit × DataW H → Nat
  | (.string bytes, d) => bytes.length + uptoBulk d + 1
  | (_, d) => uptoBulk d + 1
 end
def uptoSmall : (H : Type) → List (DataW H) → Bool := fun _ ds => decide (uptoBulkAll ds ≤ 1048576)
def OpenSpec.upto (s : _root_.Go.ChangeSpec) : _root_.Go.OpenSpec := { _root_.Go.OpenSpec.ofChange s with cond := some uptoSmall }

/-- 'ratoonlaw11.DiskAnswers', WHERE WHAT IT READS IS OF BULK AT MOST 1048576: true; the input reads as it did. -/
def diskAnswersUptoRow : OpenClaim := { program := "yteeoonoccklhmaa", sum := "0f85478cd7da160e92696fd46a8d85c488fd691404c6fc1090df686ed9b54c76", func := "ratoon/ratoonlaw11.DiskAnswers", spec := "diskAnswers", unfollowed := true, recurses := true, apart := false, narrowed := true }
def DiskAnswersUptoSaid : Prop := diskAnswersUptoRow.holds Try.pinned (OpenSpec.upto diskAnswersSpec)

/-- 'ratoonlaw11.DiskOld', WHERE WHAT IT READS IS OF BULK AT MOST 1048576: true; the input reads as it did. -/
def diskOldUptoRow : OpenClaim := { program := "yteeoonoccklhmaa", sum := "0f85478cd7da160e92696fd46a8d85c488fd691404c6fc1090df686ed9b54c76", func := "ratoon/ratoonlaw11.DiskOld", spec := "diskOld", unfollowed := true, recurses := true, apart := false, narrowed := true }
def DiskOldUptoSaid : Prop := diskOldUptoRow.holds Try.pinned (OpenSpec.upto diskOldSpec)

/-- 'ratoonlaw11.DiskDo', WHERE WHAT IT READS IS OF BULK AT MOST 1048576: true; the input reads as it did. -/
def diskDoUptoRow : OpenClaim := { program := "yteeoonoccklhmaa", sum := "0f85478cd7da160e92696fd46a8d85c488fd691404c6fc1090df686ed9b54c76", func := "ratoon/ratoonlaw11.DiskDo", spec := "diskDo", unfollowed := true, recurses := true, apart := false, narrowed := true }
def DiskDoUptoSaid : Prop := diskDoUptoRow.holds Try.pinned (OpenSpec.upto diskDoSpec)

/-- 'ratoonlaw11.DiskOnce', WHERE WHAT IT READS IS OF BULK AT MOST 1048576: true; the input reads as it did. -/
def diskOnceUptoRow : OpenClaim := { program := "yteeoonoccklhmaa", sum := "0f85478cd7da160e92696fd46a8d85c488fd691404c6fc1090df686ed9b54c76", func := "ratoon/ratoonlaw11.DiskOnce", spec := "diskOnce", unfollowed := true, recurses := true, apart := false, narrowed := true }
def DiskOnceUptoSaid : Prop := diskOnceUptoRow.holds Try.pinned (OpenSpec.upto diskOnceSpec)

/-- 'ratoonlaw11.DiskNew', WHERE WHAT IT READS IS OF BULK AT MOST 1048576: true; the input reads as it did. -/
def diskNewUptoRow : OpenClaim := { program := "yteeoonoccklhmaa", sum := "0f85478cd7da160e92696fd46a8d85c488fd691404c6fc1090df686ed9b54c76", func := "ratoon/ratoonlaw11.DiskNew", spec := "diskNew", inPlace := ["internal/bytealg.MakeNoZero"], unfollowed := true, recurses := true, apart := false, narrowed := true }
def DiskNewUptoSaid : Prop := diskNewUptoRow.holds Try.pinned (OpenSpec.upto diskNewSpec)

/-- 'ratoonlaw11.DiskBlocks', WHERE WHAT IT READS IS OF BULK AT MOST 1048576: true; the input reads as it did. -/
def diskBlocksUptoRow : OpenClaim := { program := "yteeoonoccklhmaa", sum := "0f85478cd7da160e92696fd46a8d85c488fd691404c6fc1090df686ed9b54c76", func := "ratoon/ratoonlaw11.DiskBlocks", spec := "diskBlocks", inPlace := ["internal/bytealg.MakeNoZero"], unfollowed := true, recurses := true, apart := false, narrowed := true }
def DiskBlocksUptoSaid : Prop := diskBlocksUptoRow.holds Try.pinned (OpenSpec.upto diskBlocksSpec)

end Rows
end Go.Proofs.Yteeoonoccklhmaa
