/-
  No cell of these rows narrows 'for every input' (looked for: loops, veiled, ifaces, maps, wideKeys, modest, calm, conditions, laid).
  DERIVED. THE GIVEN ROWS OF THIS SEAT. 7 by the template 'for every input the law returns true; each argument reads behind the call as it read before'; 0 by the template 'total and deterministic' (their statements: YtcbgablnbgpjdaaTotals.lean).
  GIVEN WITH THE SEED: the statements are not yours to turn. If you find one false, say at which input.
  Laid BY PROGRAM, IN A SANDBOX (cutbox-rows.mjs): the forced cells as the released guide's own fill.sh prints them over the translation b720420d6a5b2293… (all of the seat's roots in one cut). By AI agents, Wed Nov 11 2026. No macro, syntax, notation, axiom, sorry.
-/
import Derived.Test.YtcbgablnbgpjdaaChecked
import GoSem.Claim
import GoSem.ClaimJoined
import GoSem.ClaimMapViews
import Derived.JoinedTies
import Derived.KernelRfl
namespace Go.Proofs.Ytcbgablnbgpjdaa
/- THE CELL 'sum', in the pinned program and in every row, IS THE sha256 OF THE DUMP (.gsa) THAT YtcbgablnbgpjdaaProg.lean LOADS. Nothing in Lean hashes anything: it is a label: what it is worth is what the hold of that sum in a sandbox is worth. -/
noncomputable def Try.pinned : Pinned := { name := "ytcbgablnbgpjdaa", sum := "b720420d6a5b229329289e544c327c0d6df47aa1e8b983efc44cce1ee47d1499", checked := Try.checked }
namespace Rows
def none {H : Type} : Left H := { results := [], args := [] }

/-- 'ratoonlaw36.JournalPlan': WHATEVER THE INPUT: true; the input reads as it did. -/
def journalPlanSpec : ChangeSpec := { name := "journalPlan", fn := fun _ => fun
  | [d1, d2] => { results := [.lit (.bool true)], args := [d1, d2] }
  | _ => none }
def journalPlanRow : OpenClaim := { program := "ytcbgablnbgpjdaa", sum := "b720420d6a5b229329289e544c327c0d6df47aa1e8b983efc44cce1ee47d1499", func := "ratoon/ratoonlaw36.JournalPlan", spec := "journalPlan", unfollowed := true, recurses := true, apart := false }
def JournalPlanSaid : Prop := journalPlanRow.holds Try.pinned (OpenSpec.ofChange journalPlanSpec)

/-- ITS FALSE NEIGHBOUR: 'it returns false'. Refute it at one input. -/
def journalPlanWrong : ChangeSpec := { name := "journalPlan", fn := fun _ => fun
  | [d1, d2] => { results := [.lit (.bool false)], args := [d1, d2] }
  | _ => none }
def JournalPlanWrongFalsely : Prop := journalPlanRow.holds Try.pinned (OpenSpec.ofChange journalPlanWrong)

/-- 'ratoonlaw36.JournalDamage': WHATEVER THE INPUT: true; the input reads as it did. -/
def journalDamageSpec : ChangeSpec := { name := "journalDamage", fn := fun _ => fun
  | [d1, d2] => { results := [.lit (.bool true)], args := [d1, d2] }
  | _ => none }
def journalDamageRow : OpenClaim := { program := "ytcbgablnbgpjdaa", sum := "b720420d6a5b229329289e544c327c0d6df47aa1e8b983efc44cce1ee47d1499", func := "ratoon/ratoonlaw36.JournalDamage", spec := "journalDamage", unfollowed := true, recurses := true, apart := false }
def JournalDamageSaid : Prop := journalDamageRow.holds Try.pinned (OpenSpec.ofChange journalDamageSpec)

/-- ITS FALSE NEIGHBOUR: 'it returns false'. Refute it at one input. -/
def journalDamageWrong : ChangeSpec := { name := "journalDamage", fn := fun _ => fun
  | [d1, d2] => { results := [.lit (.bool false)], args := [d1, d2] }
  | _ => none }
def JournalDamageWrongFalsely : Prop := journalDamageRow.holds Try.pinned (OpenSpec.ofChange journalDamageWrong)

/-- 'ratoonlaw36.JournalApply': WHATEVER THE INPUT: true; the input reads as it did. -/
def journalApplySpec : ChangeSpec := { name := "journalApply", fn := fun _ => fun
  | [d1, d2, d3] => { results := [.lit (.bool true)], args := [d1, d2, d3] }
  | _ => none }
def journalApplyRow : OpenClaim := { program := "ytcbgablnbgpjdaa", sum := "b720420d6a5b229329289e544c327c0d6df47aa1e8b983efc44cce1ee47d1499", func := "ratoon/ratoonlaw36.JournalApply", spec := "journalApply", unfollowed := true, recurses := true, apart := false }
def JournalApplySaid : Prop := journalApplyRow.holds Try.pinned (OpenSpec.ofChange journalApplySpec)

/-- ITS FALSE NEIGHBOUR: 'it returns false'. Refute it at one input. -/
def journalApplyWrong : ChangeSpec := { name := "journalApply", fn := fun _ => fun
  | [d1, d2, d3] => { results := [.lit (.bool false)], args := [d1, d2, d3] }
  | _ => none }
def JournalApplyWrongFalsely : Prop := journalApplyRow.holds Try.pinned (OpenSpec.ofChange journalApplyWrong)

/-- 'ratoonlaw36.JournalRead': WHATEVER THE INPUT: true; the input reads as it did. -/
def journalReadSpec : ChangeSpec := { name := "journalRead", fn := fun _ => fun
  | [d1, d2] => { results := [.lit (.bool true)], args := [d1, d2] }
  | _ => none }
def journalReadRow : OpenClaim := { program := "ytcbgablnbgpjdaa", sum := "b720420d6a5b229329289e544c327c0d6df47aa1e8b983efc44cce1ee47d1499", func := "ratoon/ratoonlaw36.JournalRead", spec := "journalRead", unfollowed := true, recurses := true, apart := false }
def JournalReadSaid : Prop := journalReadRow.holds Try.pinned (OpenSpec.ofChange journalReadSpec)

/-- ITS FALSE NEIGHBOUR: 'it returns false'. Refute it at one input. -/
def journalReadWrong : ChangeSpec := { name := "journalRead", fn := fun _ => fun
  | [d1, d2] => { results := [.lit (.bool false)], args := [d1, d2] }
  | _ => none }
def JournalReadWrongFalsely : Prop := journalReadRow.holds Try.pinned (OpenSpec.ofChange journalReadWrong)

/-- 'ratoonlaw36.JournalAtomic': WHATEVER THE INPUT: true; the input reads as it did. -/
def journalAtomicSpec : ChangeSpec := { name := "journalAtomic", fn := fun _ => fun
  | [d1, d2, d3] => { results := [.lit (.bool true)], args := [d1, d2, d3] }
  | _ => none }
def journalAtomicRow : OpenClaim := { program := "ytcbgablnbgpjdaa", sum := "b720420d6a5b229329289e544c327c0d6df47aa1e8b983efc44cce1ee47d1499", func := "ratoon/ratoonlaw36.JournalAtomic", spec := "journalAtomic", unfollowed := true, recurses := true, apart := false }
def JournalAtomicSaid : Prop := journalAtomicRow.holds Try.pinned (OpenSpec.ofChange journalAtomicSpec)

/-- ITS FALSE NEIGHBOUR: 'it returns false'. Refute it at one input. -/
def journalAtomicWrong : ChangeSpec := { name := "journalAtomic", fn := fun _ => fun
  | [d1, d2, d3] => { results := [.lit (.bool false)], args := [d1, d2, d3] }
  | _ => none }
def JournalAtomicWrongFalsely : Prop := journalAtomicRow.holds Try.pinned (OpenSpec.ofChange journalAtomicWrong)

/-- 'ratoonlaw36.JournalSequence': WHATEVER THE INPUT: true; the input reads as it did. -/
def journalSequenceSpec : ChangeSpec := { name := "journalSequence", fn := fun _ => fun
  | [d1, d2, d3] => { results := [.lit (.bool true)], args := [d1, d2, d3] }
  | _ => none }
def journalSequenceRow : OpenClaim := { program := "ytcbgablnbgpjdaa", sum := "b720420d6a5b229329289e544c327c0d6df47aa1e8b983efc44cce1ee47d1499", func := "ratoon/ratoonlaw36.JournalSequence", spec := "journalSequence", unfollowed := true, recurses := true, apart := false }
def JournalSequenceSaid : Prop := journalSequenceRow.holds Try.pinned (OpenSpec.ofChange journalSequenceSpec)

/-- ITS FALSE NEIGHBOUR: 'it returns false'. Refute it at one input. -/
def journalSequenceWrong : ChangeSpec := { name := "journalSequence", fn := fun _ => fun
  | [d1, d2, d3] => { results := [.lit (.bool false)], args := [d1, d2, d3] }
  | _ => none }
def JournalSequenceWrongFalsely : Prop := journalSequenceRow.holds Try.pinned (OpenSpec.ofChange journalSequenceWrong)

/-- 'ratoonlaw36.JournalAgain': WHATEVER THE INPUT: true; the input reads as it did. -/
def journalAgainSpec : ChangeSpec := { name := "journalAgain", fn := fun _ => fun
  | [d1, d2] => { results := [.lit (.bool true)], args := [d1, d2] }
  | _ => none }
def journalAgainRow : OpenClaim := { program := "ytcbgablnbgpjdaa", sum := "b720420d6a5b229329289e544c327c0d6df47aa1e8b983efc44cce1ee47d1499", func := "ratoon/ratoonlaw36.JournalAgain", spec := "journalAgain", unfollowed := true, recurses := true, apart := false }
def JournalAgainSaid : Prop := journalAgainRow.holds Try.pinned (OpenSpec.ofChange journalAgainSpec)

/-- ITS FALSE NEIGHBOUR: 'it returns false'. Refute it at one input. -/
def journalAgainWrong : ChangeSpec := { name := "journalAgain", fn := fun _ => fun
  | [d1, d2] => { results := [.lit (.bool false)], args := [d1, d2] }
  | _ => none }
def JournalAgainWrongFalsely : Prop := journalAgainRow.holds Try.pinned (OpenSpec.ofChange journalAgainWrong)

/- THE SECOND FORM. 'bulk': how many values and letters a reading holds, each counted each time it is reached (what is shared counts as often as it is met; a slice's spare places count too). A statement '..UptoSaid' is the law's where the arguments, and the package variables that the reading takes, are together of bulk at most 1048576: NARROWER than '..Said'. Prove '..Said' where nothing that the law and all that it calls make is longer than what came in: it says more and counts as full. Else prove '..UptoSaid'. A law counts once. -/
mutual
def uptoBulk {H : Type} : DataW H → Nat
  | .lit (.string bytes) => bytes.length + 1
  | .lit _ => 1
  | .nil => 1
  | .ptr d => uptoBulk d + 1
  | .slice elems spare => uptoBulkAll elems + uptoBulkAll spare + 1
  | .agg parts => uptoBulkAll parts + 1
  | .iface _ d => uptoBulk d + 1
  | .map entries => uptoBulkEntries entries + 1
  | .held _ => 1
def uptoBulkAll {H : Type} : List (DataW H) → Nat
  | [] => 0
  | d :: r => uptoBulk d + uptoBulkAll r
def uptoBulkEntries {H : Type} : List (Lit × DataW H) → Nat
  | [] => 0
  | x :: r => uptoBulkEntry x + uptoBulkEntries r
def uptoBulkEntry {H : Type} : Lit × DataW H → Nat
  | (.string bytes, d) => bytes.length + uptoBulk d + 1
  | (_, d) => uptoBulk d + 1
 end
def uptoSmall : (H : Type) → List (DataW H) → Bool := fun _ ds => decide (uptoBulkAll ds ≤ 1048576)
def OpenSpec.upto (s : _root_.Go.ChangeSpec) : _root_.Go.OpenSpec := { _root_.Go.OpenSpec.ofChange s with cond := some uptoSmall }

/-- 'ratoonlaw36.JournalPlan', WHERE WHAT IT READS IS OF BULK AT MOST 1048576: true; the input reads as it did. -/
def journalPlanUptoRow : OpenClaim := { program := "ytcbgablnbgpjdaa", sum := "b720420d6a5b229329289e544c327c0d6df47aa1e8b983efc44cce1ee47d1499", func := "ratoon/ratoonlaw36.JournalPlan", spec := "journalPlan", unfollowed := true, recurses := true, apart := false, narrowed := true }
def JournalPlanUptoSaid : Prop := journalPlanUptoRow.holds Try.pinned (OpenSpec.upto journalPlanSpec)

/-- 'ratoonlaw36.JournalDamage', WHERE WHAT IT READS IS OF BULK AT MOST 1048576: true; the input reads as it did. -/
def journalDamageUptoRow : OpenClaim := { program := "ytcbgablnbgpjdaa", sum := "b720420d6a5b229329289e544c327c0d6df47aa1e8b983efc44cce1ee47d1499", func := "ratoon/ratoonlaw36.JournalDamage", spec := "journalDamage", unfollowed := true, recurses := true, apart := false, narrowed := true }
def JournalDamageUptoSaid : Prop := journalDamageUptoRow.holds Try.pinned (OpenSpec.upto journalDamageSpec)

/-- 'ratoonlaw36.JournalApply', WHERE WHAT IT READS IS OF BULK AT MOST 1048576: true; the input reads as it did. -/
def journalApplyUptoRow : OpenClaim := { program := "ytcbgablnbgpjdaa", sum := "b720420d6a5b229329289e544c327c0d6df47aa1e8b983efc44cce1ee47d1499", func := "ratoon/ratoonlaw36.JournalApply", spec := "journalApply", unfollowed := true, recurses := true, apart := false, narrowed := true }
def JournalApplyUptoSaid : Prop := journalApplyUptoRow.holds Try.pinned (OpenSpec.upto journalApplySpec)

/-- 'ratoonlaw36.JournalRead', WHERE WHAT IT READS IS OF BULK AT MOST 1048576: true; the input reads as it did. -/
def journalReadUptoRow : OpenClaim := { program := "ytcbgablnbgpjdaa", sum := "b720420d6a5b229329289e544c327c0d6df47aa1e8b983efc44cce1ee47d1499", func := "ratoon/ratoonlaw36.JournalRead", spec := "journalRead", unfollowed := true, recurses := true, apart := false, narrowed := true }
def JournalReadUptoSaid : Prop := journalReadUptoRow.holds Try.pinned (OpenSpec.upto journalReadSpec)

/-- 'ratoonlaw36.JournalAtomic', WHERE WHAT IT READS IS OF BULK AT MOST 1048576: true; the input reads as it did. -/
def journalAtomicUptoRow : OpenClaim := { program := "ytcbgablnbgpjdaa", sum := "b720420d6a5b229329289e544c327c0d6df47aa1e8b983efc44cce1ee47d1499", func := "ratoon/ratoonlaw36.JournalAtomic", spec := "journalAtomic", unfollowed := true, recurses := true, apart := false, narrowed := true }
def JournalAtomicUptoSaid : Prop := journalAtomicUptoRow.holds Try.pinned (OpenSpec.upto journalAtomicSpec)

/-- 'ratoonlaw36.JournalSequence', WHERE WHAT IT READS IS OF BULK AT MOST 1048576: true; the input reads as it did. -/
def journalSequenceUptoRow : OpenClaim := { program := "ytcbgablnbgpjdaa", sum := "b720420d6a5b229329289e544c327c0d6df47aa1e8b983efc44cce1ee47d1499", func := "ratoon/ratoonlaw36.JournalSequence", spec := "journalSequence", unfollowed := true, recurses := true, apart := false, narrowed := true }
def JournalSequenceUptoSaid : Prop := journalSequenceUptoRow.holds Try.pinned (OpenSpec.upto journalSequenceSpec)

/-- 'ratoonlaw36.JournalAgain', WHERE WHAT IT READS IS OF BULK AT MOST 1048576: true; the input reads as it did. -/
def journalAgainUptoRow : OpenClaim := { program := "ytcbgablnbgpjdaa", sum := "b720420d6a5b229329289e544c327c0d6df47aa1e8b983efc44cce1ee47d1499", func := "ratoon/ratoonlaw36.JournalAgain", spec := "journalAgain", unfollowed := true, recurses := true, apart := false, narrowed := true }
def JournalAgainUptoSaid : Prop := journalAgainUptoRow.holds Try.pinned (OpenSpec.upto journalAgainSpec)

end Rows
end Go.Proofs.Ytcbgablnbgpjdaa
