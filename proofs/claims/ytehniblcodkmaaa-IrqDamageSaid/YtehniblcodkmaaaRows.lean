/-
  No cell of these rows narrows 'for every input' (looked for: loops, veiled, ifaces, maps, wideKeys, modest, calm, conditions, laid).
  DERIVED. THE GIVEN ROWS OF THIS SEAT. 7 by the template 'for every input the law returns true; each argument reads behind the call as it read before'; 0 by the template 'total and deterministic' (their statements: YtehniblcodkmaaaTotals.lean).
  GIVEN WITH THE SEED: the statements are not yours to turn. If you find one false, say at which input.
  Laid BY PROGRAM, IN A SANDBOX (cutbox-rows.mjs): the forced cells as the released guide's own fill.sh prints them over the translation c636606ca10dbbc1… (all of the seat's roots in one cut). By AI agents, Wed Nov 11 2026. No macro, syntax, notation, axiom, sorry.
-/
import Derived.Test.YtehniblcodkmaaaChecked
import GoSem.Claim
import GoSem.ClaimJoined
import GoSem.ClaimMapViews
import Derived.JoinedTies
import Derived.KernelRfl
namespace Go.Proofs.Ytehniblcodkmaaa
/- THE CELL 'sum', in the pinned program and in every row, IS THE sha256 OF THE DUMP (.gsa) THAT YtehniblcodkmaaaProg.lean LOADS. Nothing in Lean hashes anything: it is a label: what it is worth is what the hold of that sum in a sandbox is worth. -/
noncomputable def Try.pinned : Pinned := { name := "ytehniblcodkmaaa", sum := "c636606ca10dbbc15a5e7bb92944d4ab5592e9d8e062a22595cb18cd48c925aa", checked := Try.checked }
namespace Rows
def none {H : Type} : Left H := { results := [], args := [] }

/-- 'ratoonlaw15.IrqOrder': WHATEVER THE INPUT: true; the input reads as it did. -/
def irqOrderSpec : ChangeSpec := { name := "irqOrder", fn := fun _ => fun
  | [d1, d2] => { results := [.lit (.bool true)], args := [d1, d2] }
  | _ => none }
def irqOrderRow : OpenClaim := { program := "ytehniblcodkmaaa", sum := "c636606ca10dbbc15a5e7bb92944d4ab5592e9d8e062a22595cb18cd48c925aa", func := "ratoon/ratoonlaw15.IrqOrder", spec := "irqOrder", unfollowed := true, recurses := true, apart := false }
def IrqOrderSaid : Prop := irqOrderRow.holds Try.pinned (OpenSpec.ofChange irqOrderSpec)

/-- ITS FALSE NEIGHBOUR: 'it returns false'. Refute it at one input. -/
def irqOrderWrong : ChangeSpec := { name := "irqOrder", fn := fun _ => fun
  | [d1, d2] => { results := [.lit (.bool false)], args := [d1, d2] }
  | _ => none }
def IrqOrderWrongFalsely : Prop := irqOrderRow.holds Try.pinned (OpenSpec.ofChange irqOrderWrong)

/-- 'ratoonlaw15.IrqAgain': WHATEVER THE INPUT: true; the input reads as it did. -/
def irqAgainSpec : ChangeSpec := { name := "irqAgain", fn := fun _ => fun
  | [d1, d2] => { results := [.lit (.bool true)], args := [d1, d2] }
  | _ => none }
def irqAgainRow : OpenClaim := { program := "ytehniblcodkmaaa", sum := "c636606ca10dbbc15a5e7bb92944d4ab5592e9d8e062a22595cb18cd48c925aa", func := "ratoon/ratoonlaw15.IrqAgain", spec := "irqAgain", unfollowed := true, recurses := true, apart := false }
def IrqAgainSaid : Prop := irqAgainRow.holds Try.pinned (OpenSpec.ofChange irqAgainSpec)

/-- ITS FALSE NEIGHBOUR: 'it returns false'. Refute it at one input. -/
def irqAgainWrong : ChangeSpec := { name := "irqAgain", fn := fun _ => fun
  | [d1, d2] => { results := [.lit (.bool false)], args := [d1, d2] }
  | _ => none }
def IrqAgainWrongFalsely : Prop := irqAgainRow.holds Try.pinned (OpenSpec.ofChange irqAgainWrong)

/-- 'ratoonlaw15.IrqMasks': WHATEVER THE INPUT: true; the input reads as it did. -/
def irqMasksSpec : ChangeSpec := { name := "irqMasks", fn := fun _ => fun
  | [d1, d2] => { results := [.lit (.bool true)], args := [d1, d2] }
  | _ => none }
def irqMasksRow : OpenClaim := { program := "ytehniblcodkmaaa", sum := "c636606ca10dbbc15a5e7bb92944d4ab5592e9d8e062a22595cb18cd48c925aa", func := "ratoon/ratoonlaw15.IrqMasks", spec := "irqMasks", unfollowed := true, recurses := true, apart := false }
def IrqMasksSaid : Prop := irqMasksRow.holds Try.pinned (OpenSpec.ofChange irqMasksSpec)

/-- ITS FALSE NEIGHBOUR: 'it returns false'. Refute it at one input. -/
def irqMasksWrong : ChangeSpec := { name := "irqMasks", fn := fun _ => fun
  | [d1, d2] => { results := [.lit (.bool false)], args := [d1, d2] }
  | _ => none }
def IrqMasksWrongFalsely : Prop := irqMasksRow.holds Try.pinned (OpenSpec.ofChange irqMasksWrong)

/-- 'ratoonlaw15.IrqTake': WHATEVER THE INPUT: true; the input reads as it did. -/
def irqTakeSpec : ChangeSpec := { name := "irqTake", fn := fun _ => fun
  | [d1, d2, d3] => { results := [.lit (.bool true)], args := [d1, d2, d3] }
  | _ => none }
def irqTakeRow : OpenClaim := { program := "ytehniblcodkmaaa", sum := "c636606ca10dbbc15a5e7bb92944d4ab5592e9d8e062a22595cb18cd48c925aa", func := "ratoon/ratoonlaw15.IrqTake", spec := "irqTake", unfollowed := true, recurses := true, apart := false }
def IrqTakeSaid : Prop := irqTakeRow.holds Try.pinned (OpenSpec.ofChange irqTakeSpec)

/-- ITS FALSE NEIGHBOUR: 'it returns false'. Refute it at one input. -/
def irqTakeWrong : ChangeSpec := { name := "irqTake", fn := fun _ => fun
  | [d1, d2, d3] => { results := [.lit (.bool false)], args := [d1, d2, d3] }
  | _ => none }
def IrqTakeWrongFalsely : Prop := irqTakeRow.holds Try.pinned (OpenSpec.ofChange irqTakeWrong)

/-- 'ratoonlaw15.IrqRaise': WHATEVER THE INPUT: true; the input reads as it did. -/
def irqRaiseSpec : ChangeSpec := { name := "irqRaise", fn := fun _ => fun
  | [d1, d2] => { results := [.lit (.bool true)], args := [d1, d2] }
  | _ => none }
def irqRaiseRow : OpenClaim := { program := "ytehniblcodkmaaa", sum := "c636606ca10dbbc15a5e7bb92944d4ab5592e9d8e062a22595cb18cd48c925aa", func := "ratoon/ratoonlaw15.IrqRaise", spec := "irqRaise", unfollowed := true, recurses := true, apart := false }
def IrqRaiseSaid : Prop := irqRaiseRow.holds Try.pinned (OpenSpec.ofChange irqRaiseSpec)

/-- ITS FALSE NEIGHBOUR: 'it returns false'. Refute it at one input. -/
def irqRaiseWrong : ChangeSpec := { name := "irqRaise", fn := fun _ => fun
  | [d1, d2] => { results := [.lit (.bool false)], args := [d1, d2] }
  | _ => none }
def IrqRaiseWrongFalsely : Prop := irqRaiseRow.holds Try.pinned (OpenSpec.ofChange irqRaiseWrong)

/-- 'ratoonlaw15.IrqMessage': WHATEVER THE INPUT: true; the input reads as it did. -/
def irqMessageSpec : ChangeSpec := { name := "irqMessage", fn := fun _ => fun
  | [d1, d2] => { results := [.lit (.bool true)], args := [d1, d2] }
  | _ => none }
def irqMessageRow : OpenClaim := { program := "ytehniblcodkmaaa", sum := "c636606ca10dbbc15a5e7bb92944d4ab5592e9d8e062a22595cb18cd48c925aa", func := "ratoon/ratoonlaw15.IrqMessage", spec := "irqMessage", unfollowed := true, recurses := true, apart := false }
def IrqMessageSaid : Prop := irqMessageRow.holds Try.pinned (OpenSpec.ofChange irqMessageSpec)

/-- ITS FALSE NEIGHBOUR: 'it returns false'. Refute it at one input. -/
def irqMessageWrong : ChangeSpec := { name := "irqMessage", fn := fun _ => fun
  | [d1, d2] => { results := [.lit (.bool false)], args := [d1, d2] }
  | _ => none }
def IrqMessageWrongFalsely : Prop := irqMessageRow.holds Try.pinned (OpenSpec.ofChange irqMessageWrong)

/-- 'ratoonlaw15.IrqDamage': WHATEVER THE INPUT: true; the input reads as it did. -/
def irqDamageSpec : ChangeSpec := { name := "irqDamage", fn := fun _ => fun
  | [d1, d2] => { results := [.lit (.bool true)], args := [d1, d2] }
  | _ => none }
def irqDamageRow : OpenClaim := { program := "ytehniblcodkmaaa", sum := "c636606ca10dbbc15a5e7bb92944d4ab5592e9d8e062a22595cb18cd48c925aa", func := "ratoon/ratoonlaw15.IrqDamage", spec := "irqDamage", unfollowed := true, recurses := true, apart := false }
def IrqDamageSaid : Prop := irqDamageRow.holds Try.pinned (OpenSpec.ofChange irqDamageSpec)

/-- ITS FALSE NEIGHBOUR: 'it returns false'. Refute it at one input. -/
def irqDamageWrong : ChangeSpec := { name := "irqDamage", fn := fun _ => fun
  | [d1, d2] => { results := [.lit (.bool false)], args := [d1, d2] }
  | _ => none }
def IrqDamageWrongFalsely : Prop := irqDamageRow.holds Try.pinned (OpenSpec.ofChange irqDamageWrong)

/- THE SECOND FORM. 'bulk': how many values and letters a reading holds, each counted each time it is reached (what is shared counts as often as it is met; a slice's spare places count too). A statement '..UptoSaid' is the law's where the arguments, and the package variables that the reading takes, are together of bulk at most 1048576: NARROWER than '..Said'. Prove '..Said' where nothing that the law and all that it calls make is longer than what came in: it says more and counts as full. Else prove '..UptoSaid'. A law counts once. -/
mutual
def uptoBulk {H : Type} : DataW H → Nat
  | .lit (.string bytes) => bytes.length + 1
  | .lit _ => 1
  | .nil => 1
  | .ptr d => uptoBulk d + 1
  | .slice elems spare => uptoBulkAll elems + uptoBulkAll spare + 1
  | .agg parts => uptoBulkAll parts + 1
  | .iface _ d => uptoBulk d + 1
  | .map entries => uptoBulkEntries entries + 1
  | .held _ => 1
def uptoBulkAll {H : Type} : List (DataW H) → Nat
  | [] => 0
  | d :: r => uptoBulk d + uptoBulkAll r
def uptoBulkEntries {H : Type} : List (Lit × DataW H) → Nat
  | [] => 0
  | x :: r => uptoBulkEntry x + uptoBulkEntries r
def uptoBulkEntry {H : Type} : Lit × DataW H → Nat
  | (.string bytes, d) => bytes.length + uptoBulk d + 1
  | (_, d) => uptoBulk d + 1
 end
def uptoSmall : (H : Type) → List (DataW H) → Bool := fun _ ds => decide (uptoBulkAll ds ≤ 1048576)
def OpenSpec.upto (s : _root_.Go.ChangeSpec) : _root_.Go.OpenSpec := { _root_.Go.OpenSpec.ofChange s with cond := some uptoSmall }

/-- 'ratoonlaw15.IrqOrder', WHERE WHAT IT READS IS OF BULK AT MOST 1048576: true; the input reads as it did. -/
def irqOrderUptoRow : OpenClaim := { program := "ytehniblcodkmaaa", sum := "c636606ca10dbbc15a5e7bb92944d4ab5592e9d8e062a22595cb18cd48c925aa", func := "ratoon/ratoonlaw15.IrqOrder", spec := "irqOrder", unfollowed := true, recurses := true, apart := false, narrowed := true }
def IrqOrderUptoSaid : Prop := irqOrderUptoRow.holds Try.pinned (OpenSpec.upto irqOrderSpec)

/-- 'ratoonlaw15.IrqAgain', WHERE WHAT IT READS IS OF BULK AT MOST 1048576: true; the input reads as it did. -/
def irqAgainUptoRow : OpenClaim := { program := "ytehniblcodkmaaa", sum := "c636606ca10dbbc15a5e7bb92944d4ab5592e9d8e062a22595cb18cd48c925aa", func := "ratoon/ratoonlaw15.IrqAgain", spec := "irqAgain", unfollowed := true, recurses := true, apart := false, narrowed := true }
def IrqAgainUptoSaid : Prop := irqAgainUptoRow.holds Try.pinned (OpenSpec.upto irqAgainSpec)

/-- 'ratoonlaw15.IrqMasks', WHERE WHAT IT READS IS OF BULK AT MOST 1048576: true; the input reads as it did. -/
def irqMasksUptoRow : OpenClaim := { program := "ytehniblcodkmaaa", sum := "c636606ca10dbbc15a5e7bb92944d4ab5592e9d8e062a22595cb18cd48c925aa", func := "ratoon/ratoonlaw15.IrqMasks", spec := "irqMasks", unfollowed := true, recurses := true, apart := false, narrowed := true }
def IrqMasksUptoSaid : Prop := irqMasksUptoRow.holds Try.pinned (OpenSpec.upto irqMasksSpec)

/-- 'ratoonlaw15.IrqTake', WHERE WHAT IT READS IS OF BULK AT MOST 1048576: true; the input reads as it did. -/
def irqTakeUptoRow : OpenClaim := { program := "ytehniblcodkmaaa", sum := "c636606ca10dbbc15a5e7bb92944d4ab5592e9d8e062a22595cb18cd48c925aa", func := "ratoon/ratoonlaw15.IrqTake", spec := "irqTake", unfollowed := true, recurses := true, apart := false, narrowed := true }
def IrqTakeUptoSaid : Prop := irqTakeUptoRow.holds Try.pinned (OpenSpec.upto irqTakeSpec)

/-- 'ratoonlaw15.IrqRaise', WHERE WHAT IT READS IS OF BULK AT MOST 1048576: true; the input reads as it did. -/
def irqRaiseUptoRow : OpenClaim := { program := "ytehniblcodkmaaa", sum := "c636606ca10dbbc15a5e7bb92944d4ab5592e9d8e062a22595cb18cd48c925aa", func := "ratoon/ratoonlaw15.IrqRaise", spec := "irqRaise", unfollowed := true, recurses := true, apart := false, narrowed := true }
def IrqRaiseUptoSaid : Prop := irqRaiseUptoRow.holds Try.pinned (OpenSpec.upto irqRaiseSpec)

/-- 'ratoonlaw15.IrqMessage', WHERE WHAT IT READS IS OF BULK AT MOST 1048576: true; the input reads as it did. -/
def irqMessageUptoRow : OpenClaim := { program := "ytehniblcodkmaaa", sum := "c636606ca10dbbc15a5e7bb92944d4ab5592e9d8e062a22595cb18cd48c925aa", func := "ratoon/ratoonlaw15.IrqMessage", spec := "irqMessage", unfollowed := true, recurses := true, apart := false, narrowed := true }
def IrqMessageUptoSaid : Prop := irqMessageUptoRow.holds Try.pinned (OpenSpec.upto irqMessageSpec)

/-- 'ratoonlaw15.IrqDamage', WHERE WHAT IT READS IS OF BULK AT MOST 1048576: true; the input reads as it did. -/
def irqDamageUptoRow : OpenClaim := { program := "ytehniblcodkmaaa", sum := "c636606ca10dbbc15a5e7bb92944d4ab5592e9d8e062a22595cb18cd48c925aa", func := "ratoon/ratoonlaw15.IrqDamage", spec := "irqDamage", unfollowed := true, recurses := true, apart := false, narrowed := true }
def IrqDamageUptoSaid : Prop := irqDamageUptoRow.holds Try.pinned (OpenSpec.upto irqDamageSpec)

end Rows
end Go.Proofs.Ytehniblcodkmaaa
