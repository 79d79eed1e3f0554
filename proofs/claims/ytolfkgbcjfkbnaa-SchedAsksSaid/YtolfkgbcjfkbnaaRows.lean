/-
  No cell of these rows narrows 'for every input' (looked for: loops, veiled, ifaces, maps, wideKeys, modest, calm, conditions, laid).
  DERIVED. THE GIVEN ROWS OF THIS SEAT. 7 by the template 'for every input the law returns true; each argument reads behind the call as it read before'; 0 by the template 'total and deterministic' (their statements: YtolfkgbcjfkbnaaTotals.lean).
  GIVEN WITH THE SEED: the statements are not yours to turn. If you find one false, say at which input.
  Laid BY PROGRAM, IN A SANDBOX (cutbox-rows.mjs): the forced cells as the released guide's own fill.sh prints them over the translation 2cb6bb34a834678f… (all of the seat's roots in one cut). By AI agents, Wed Nov 11 2026. No macro, syntax, notation, axiom, sorry.
-/
import Derived.Test.YtolfkgbcjfkbnaaChecked
import GoSem.Claim
import GoSem.ClaimJoined
import GoSem.ClaimMapViews
import Derived.JoinedTies
import Derived.KernelRfl
namespace Go.Proofs.Ytolfkgbcjfkbnaa
/- THE CELL 'sum', in the pinned program and in every row, IS THE sha256 OF THE DUMP (.gsa) THAT YtolfkgbcjfkbnaaProg.lean LOADS. Nothing in Lean hashes anything: it is a label: what it is worth is what the hold of that sum in a sandbox is worth. -/
noncomputable def Try.pinned : Pinned := { name := "ytolfkgbcjfkbnaa", sum := "2cb6bb34a834678f003600162c95030f98da9cdb8234f1c4e8e47f90a31efdd9", checked := Try.checked }
namespace Rows
def none {H : Type} : Left H := { results := [], args := [] }

/-- 'ratoonlaw23.SchedNext': WHATEVER THE INPUT: true; the input reads as it did. -/
def schedNextSpec : ChangeSpec := { name := "schedNext", fn := fun _ => fun
  | [d1, d2] => { results := [.lit (.bool true)], args := [d1, d2] }
  | _ => none }
def schedNextRow : OpenClaim := { program := "ytolfkgbcjfkbnaa", sum := "2cb6bb34a834678f003600162c95030f98da9cdb8234f1c4e8e47f90a31efdd9", func := "ratoon/ratoonlaw23.SchedNext", spec := "schedNext", unfollowed := true, recurses := true, apart := false }
def SchedNextSaid : Prop := schedNextRow.holds Try.pinned (OpenSpec.ofChange schedNextSpec)

/-- ITS FALSE NEIGHBOUR: 'it returns false'. Refute it at one input. -/
def schedNextWrong : ChangeSpec := { name := "schedNext", fn := fun _ => fun
  | [d1, d2] => { results := [.lit (.bool false)], args := [d1, d2] }
  | _ => none }
def SchedNextWrongFalsely : Prop := schedNextRow.holds Try.pinned (OpenSpec.ofChange schedNextWrong)

/-- 'ratoonlaw23.SchedFair': WHATEVER THE INPUT: true; the input reads as it did. -/
def schedFairSpec : ChangeSpec := { name := "schedFair", fn := fun _ => fun
  | [d1, d2] => { results := [.lit (.bool true)], args := [d1, d2] }
  | _ => none }
def schedFairRow : OpenClaim := { program := "ytolfkgbcjfkbnaa", sum := "2cb6bb34a834678f003600162c95030f98da9cdb8234f1c4e8e47f90a31efdd9", func := "ratoon/ratoonlaw23.SchedFair", spec := "schedFair", unfollowed := true, recurses := true, apart := false }
def SchedFairSaid : Prop := schedFairRow.holds Try.pinned (OpenSpec.ofChange schedFairSpec)

/-- ITS FALSE NEIGHBOUR: 'it returns false'. Refute it at one input. -/
def schedFairWrong : ChangeSpec := { name := "schedFair", fn := fun _ => fun
  | [d1, d2] => { results := [.lit (.bool false)], args := [d1, d2] }
  | _ => none }
def SchedFairWrongFalsely : Prop := schedFairRow.holds Try.pinned (OpenSpec.ofChange schedFairWrong)

/-- 'ratoonlaw23.SchedWaits': WHATEVER THE INPUT: true; the input reads as it did. -/
def schedWaitsSpec : ChangeSpec := { name := "schedWaits", fn := fun _ => fun
  | [d1, d2, d3] => { results := [.lit (.bool true)], args := [d1, d2, d3] }
  | _ => none }
def schedWaitsRow : OpenClaim := { program := "ytolfkgbcjfkbnaa", sum := "2cb6bb34a834678f003600162c95030f98da9cdb8234f1c4e8e47f90a31efdd9", func := "ratoon/ratoonlaw23.SchedWaits", spec := "schedWaits", unfollowed := true, recurses := true, apart := false }
def SchedWaitsSaid : Prop := schedWaitsRow.holds Try.pinned (OpenSpec.ofChange schedWaitsSpec)

/-- ITS FALSE NEIGHBOUR: 'it returns false'. Refute it at one input. -/
def schedWaitsWrong : ChangeSpec := { name := "schedWaits", fn := fun _ => fun
  | [d1, d2, d3] => { results := [.lit (.bool false)], args := [d1, d2, d3] }
  | _ => none }
def SchedWaitsWrongFalsely : Prop := schedWaitsRow.holds Try.pinned (OpenSpec.ofChange schedWaitsWrong)

/-- 'ratoonlaw23.SchedAsks': WHATEVER THE INPUT: true; the input reads as it did. -/
def schedAsksSpec : ChangeSpec := { name := "schedAsks", fn := fun _ => fun
  | [d1, d2] => { results := [.lit (.bool true)], args := [d1, d2] }
  | _ => none }
def schedAsksRow : OpenClaim := { program := "ytolfkgbcjfkbnaa", sum := "2cb6bb34a834678f003600162c95030f98da9cdb8234f1c4e8e47f90a31efdd9", func := "ratoon/ratoonlaw23.SchedAsks", spec := "schedAsks", unfollowed := true, recurses := true, apart := false }
def SchedAsksSaid : Prop := schedAsksRow.holds Try.pinned (OpenSpec.ofChange schedAsksSpec)

/-- ITS FALSE NEIGHBOUR: 'it returns false'. Refute it at one input. -/
def schedAsksWrong : ChangeSpec := { name := "schedAsks", fn := fun _ => fun
  | [d1, d2] => { results := [.lit (.bool false)], args := [d1, d2] }
  | _ => none }
def SchedAsksWrongFalsely : Prop := schedAsksRow.holds Try.pinned (OpenSpec.ofChange schedAsksWrong)

/-- 'ratoonlaw23.SchedRotates': WHATEVER THE INPUT: true; the input reads as it did. -/
def schedRotatesSpec : ChangeSpec := { name := "schedRotates", fn := fun _ => fun
  | [d] => { results := [.lit (.bool true)], args := [d] }
  | _ => none }
def schedRotatesRow : OpenClaim := { program := "ytolfkgbcjfkbnaa", sum := "2cb6bb34a834678f003600162c95030f98da9cdb8234f1c4e8e47f90a31efdd9", func := "ratoon/ratoonlaw23.SchedRotates", spec := "schedRotates", unfollowed := true, recurses := true, apart := false }
def SchedRotatesSaid : Prop := schedRotatesRow.holds Try.pinned (OpenSpec.ofChange schedRotatesSpec)

/-- ITS FALSE NEIGHBOUR: 'it returns false'. Refute it at one input. -/
def schedRotatesWrong : ChangeSpec := { name := "schedRotates", fn := fun _ => fun
  | [d] => { results := [.lit (.bool false)], args := [d] }
  | _ => none }
def SchedRotatesWrongFalsely : Prop := schedRotatesRow.holds Try.pinned (OpenSpec.ofChange schedRotatesWrong)

/-- 'ratoonlaw23.SchedAdd': WHATEVER THE INPUT: true; the input reads as it did. -/
def schedAddSpec : ChangeSpec := { name := "schedAdd", fn := fun _ => fun
  | [d1, d2] => { results := [.lit (.bool true)], args := [d1, d2] }
  | _ => none }
def schedAddRow : OpenClaim := { program := "ytolfkgbcjfkbnaa", sum := "2cb6bb34a834678f003600162c95030f98da9cdb8234f1c4e8e47f90a31efdd9", func := "ratoon/ratoonlaw23.SchedAdd", spec := "schedAdd", unfollowed := true, recurses := true, apart := false }
def SchedAddSaid : Prop := schedAddRow.holds Try.pinned (OpenSpec.ofChange schedAddSpec)

/-- ITS FALSE NEIGHBOUR: 'it returns false'. Refute it at one input. -/
def schedAddWrong : ChangeSpec := { name := "schedAdd", fn := fun _ => fun
  | [d1, d2] => { results := [.lit (.bool false)], args := [d1, d2] }
  | _ => none }
def SchedAddWrongFalsely : Prop := schedAddRow.holds Try.pinned (OpenSpec.ofChange schedAddWrong)

/-- 'ratoonlaw23.SchedKeeps': WHATEVER THE INPUT: true; the input reads as it did. -/
def schedKeepsSpec : ChangeSpec := { name := "schedKeeps", fn := fun _ => fun
  | [d1, d2, d3] => { results := [.lit (.bool true)], args := [d1, d2, d3] }
  | _ => none }
def schedKeepsRow : OpenClaim := { program := "ytolfkgbcjfkbnaa", sum := "2cb6bb34a834678f003600162c95030f98da9cdb8234f1c4e8e47f90a31efdd9", func := "ratoon/ratoonlaw23.SchedKeeps", spec := "schedKeeps", unfollowed := true, recurses := true, apart := false }
def SchedKeepsSaid : Prop := schedKeepsRow.holds Try.pinned (OpenSpec.ofChange schedKeepsSpec)

/-- ITS FALSE NEIGHBOUR: 'it returns false'. Refute it at one input. -/
def schedKeepsWrong : ChangeSpec := { name := "schedKeeps", fn := fun _ => fun
  | [d1, d2, d3] => { results := [.lit (.bool false)], args := [d1, d2, d3] }
  | _ => none }
def SchedKeepsWrongFalsely : Prop := schedKeepsRow.holds Try.pinned (OpenSpec.ofChange schedKeepsWrong)

/- THE SECOND FORM. 'bulk': how many values and letters a reading holds, each counted each time it is reached (what is shared counts as often as it is met; a slice's spare places count too). A statement '..UptoSaid' is the law's where the arguments, and the package variables that the reading takes, are together of bulk at most 1048576: NARROWER than '..Said'. Prove '..Said' where nothing that the law and all that it calls make is longer than what came in: it says more and counts as full. Else prove '..UptoSaid'. A law counts once. -/
mutual
def uptoBulk {H : Type} : DataW H → Nat
  | .lit (.string bytes) => bytes.length + 1
  | .lit _ => 1
  | .nil => 1
  | .ptr d => uptoBulk d + 1
  | .slice elems spare => uptoBulkAll elems + uptoBulkAll spare + 1
  | .agg parts => uptoBulkAll parts + 1
  | .iface _ d => uptoBulk d + 1
  | .map entries => uptoBulkEntries entries + 1
  | .held _ => 1
def uptoBulkAll {H : Type} : List (DataW H) → Nat
  | [] => 0
  | d :: r => uptoBulk d + uptoBulkAll r
def uptoBulkEntries {H : Type} : List (Lit × DataW H) → Nat
  | [] => 0
  | x :: r => uptoBulkEntry x + uptoBulkEntries r
def uptoBulkEntry {H : Type} : Lit × DataW H → Nat
  | (.string bytes, d) => bytes.length + uptoBulk d + 1
  | (_, d) => uptoBulk d + 1
 end
def uptoSmall : (H : Type) → List (DataW H) → Bool := fun _ ds => decide (uptoBulkAll ds ≤ 1048576)
def OpenSpec.upto (s : _root_.Go.ChangeSpec) : _root_.Go.OpenSpec := { _root_.Go.OpenSpec.ofChange s with cond := some uptoSmall }

/-- 'ratoonlaw23.SchedNext', WHERE WHAT IT READS IS OF BULK AT MOST 1048576: true; the input reads as it did. -/
def schedNextUptoRow : OpenClaim := { program := "ytolfkgbcjfkbnaa", sum := "2cb6bb34a834678f003600162c95030f98da9cdb8234f1c4e8e47f90a31efdd9", func := "ratoon/ratoonlaw23.SchedNext", spec := "schedNext", unfollowed := true, recurses := true, apart := false, narrowed := true }
def SchedNextUptoSaid : Prop := schedNextUptoRow.holds Try.pinned (OpenSpec.upto schedNextSpec)

/-- 'ratoonlaw23.SchedFair', WHERE WHAT IT READS IS OF BULK AT MOST 1048576: true; the input reads as it did. -/
def schedFairUptoRow : OpenClaim := { program := "ytolfkgbcjfkbnaa", sum := "2cb6bb34a834678f003600162c95030f98da9cdb8234f1c4e8e47f90a31efdd9", func := "ratoon/ratoonlaw23.SchedFair", spec := "schedFair", unfollowed := true, recurses := true, apart := false, narrowed := true }
def SchedFairUptoSaid : Prop := schedFairUptoRow.holds Try.pinned (OpenSpec.upto schedFairSpec)

/-- 'ratoonlaw23.SchedWaits', WHERE WHAT IT READS IS OF BULK AT MOST 1048576: true; the input reads as it did. -/
def schedWaitsUptoRow : OpenClaim := { program := "ytolfkgbcjfkbnaa", sum := "2cb6bb34a834678f003600162c95030f98da9cdb8234f1c4e8e47f90a31efdd9", func := "ratoon/ratoonlaw23.SchedWaits", spec := "schedWaits", unfollowed := true, recurses := true, apart := false, narrowed := true }
def SchedWaitsUptoSaid : Prop := schedWaitsUptoRow.holds Try.pinned (OpenSpec.upto schedWaitsSpec)

/-- 'ratoonlaw23.SchedAsks', WHERE WHAT IT READS IS OF BULK AT MOST 1048576: true; the input reads as it did. -/
def schedAsksUptoRow : OpenClaim := { program := "ytolfkgbcjfkbnaa", sum := "2cb6bb34a834678f003600162c95030f98da9cdb8234f1c4e8e47f90a31efdd9", func := "ratoon/ratoonlaw23.SchedAsks", spec := "schedAsks", unfollowed := true, recurses := true, apart := false, narrowed := true }
def SchedAsksUptoSaid : Prop := schedAsksUptoRow.holds Try.pinned (OpenSpec.upto schedAsksSpec)

/-- 'ratoonlaw23.SchedRotates', WHERE WHAT IT READS IS OF BULK AT MOST 1048576: true; the input reads as it did. -/
def schedRotatesUptoRow : OpenClaim := { program := "ytolfkgbcjfkbnaa", sum := "2cb6bb34a834678f003600162c95030f98da9cdb8234f1c4e8e47f90a31efdd9", func := "ratoon/ratoonlaw23.SchedRotates", spec := "schedRotates", unfollowed := true, recurses := true, apart := false, narrowed := true }
def SchedRotatesUptoSaid : Prop := schedRotatesUptoRow.holds Try.pinned (OpenSpec.upto schedRotatesSpec)

/-- 'ratoonlaw23.SchedAdd', WHERE WHAT IT READS IS OF BULK AT MOST 1048576: true; the input reads as it did. -/
def schedAddUptoRow : OpenClaim := { program := "ytolfkgbcjfkbnaa", sum := "2cb6bb34a834678f003600162c95030f98da9cdb8234f1c4e8e47f90a31efdd9", func := "ratoon/ratoonlaw23.SchedAdd", spec := "schedAdd", unfollowed := true, recurses := true, apart := false, narrowed := true }
def SchedAddUptoSaid : Prop := schedAddUptoRow.holds Try.pinned (OpenSpec.upto schedAddSpec)

/-- 'ratoonlaw23.SchedKeeps', WHERE WHAT IT READS IS OF BULK AT MOST 1048576: true; the input reads as it did. -/
def schedKeepsUptoRow : OpenClaim := { program := "ytolfkgbcjfkbnaa", sum := "2cb6bb34a834678f003600162c95030f98da9cdb8234f1c4e8e47f90a31efdd9", func := "ratoon/ratoonlaw23.SchedKeeps", spec := "schedKeeps", unfollowed := true, recurses := true, apart := false, narrowed := true }
def SchedKeepsUptoSaid : Prop := schedKeepsUptoRow.holds Try.pinned (OpenSpec.upto schedKeepsSpec)

end Rows
end Go.Proofs.Ytolfkgbcjfkbnaa
