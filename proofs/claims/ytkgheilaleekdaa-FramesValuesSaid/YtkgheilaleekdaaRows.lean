/-
  No cell of these rows narrows 'for every input' (looked for: loops, veiled, ifaces, maps, wideKeys, modest, calm, conditions, laid).
  DERIVED. THE GIVEN ROWS OF THIS SEAT. 7 by the template 'for every input the law returns true; each argument reads behind the call as it read before'; 0 by the template 'total and deterministic' (their statements: YtkgheilaleekdaaTotals.lean).
  GIVEN WITH THE SEED: the statements are not yours to turn. If you find one false, say at which input.
  Laid BY PROGRAM, IN A SANDBOX (cutbox-rows.mjs): the forced cells as the released guide's own fill.sh prints them over the translation 50ddbeab11e82f09… (all of the seat's roots in one cut). By AI agents, Wed Nov 11 2026. No macro, syntax, notation, axiom, sorry.
-/
import Derived.Test.YtkgheilaleekdaaChecked
import GoSem.Claim
import GoSem.ClaimJoined
import GoSem.ClaimMapViews
import Derived.JoinedTies
import Derived.KernelRfl
namespace Go.Proofs.Ytkgheilaleekdaa
/- THE CELL 'sum', in the pinned program and in every row, IS THE sha256 OF THE DUMP (.gsa) THAT YtkgheilaleekdaaProg.lean LOADS. Nothing in Lean hashes anything: it is a label: what it is worth is what the hold of that sum in a sandbox is worth. -/
noncomputable def Try.pinned : Pinned := { name := "ytkgheilaleekdaa", sum := "50ddbeab11e82f09b3577f340ad2ad14106071143c234942f601198d538ed722", checked := Try.checked }
namespace Rows
def none {H : Type} : Left H := { results := [], args := [] }

/-- 'ratoonlaw08.FramesKeeps': WHATEVER THE INPUT: true; the input reads as it did. -/
def framesKeepsSpec : ChangeSpec := { name := "framesKeeps", fn := fun _ => fun
  | [d1, d2, d3] => { results := [.lit (.bool true)], args := [d1, d2, d3] }
  | _ => none }
def framesKeepsRow : OpenClaim := { program := "ytkgheilaleekdaa", sum := "50ddbeab11e82f09b3577f340ad2ad14106071143c234942f601198d538ed722", func := "ratoon/ratoonlaw08.FramesKeeps", spec := "framesKeeps", unfollowed := true, recurses := true, apart := false }
def FramesKeepsSaid : Prop := framesKeepsRow.holds Try.pinned (OpenSpec.ofChange framesKeepsSpec)

/-- ITS FALSE NEIGHBOUR: 'it returns false'. Refute it at one input. -/
def framesKeepsWrong : ChangeSpec := { name := "framesKeeps", fn := fun _ => fun
  | [d1, d2, d3] => { results := [.lit (.bool false)], args := [d1, d2, d3] }
  | _ => none }
def FramesKeepsWrongFalsely : Prop := framesKeepsRow.holds Try.pinned (OpenSpec.ofChange framesKeepsWrong)

/-- 'ratoonlaw08.FramesValues': WHATEVER THE INPUT: true; the input reads as it did. -/
def framesValuesSpec : ChangeSpec := { name := "framesValues", fn := fun _ => fun
  | [d1, d2, d3] => { results := [.lit (.bool true)], args := [d1, d2, d3] }
  | _ => none }
def framesValuesRow : OpenClaim := { program := "ytkgheilaleekdaa", sum := "50ddbeab11e82f09b3577f340ad2ad14106071143c234942f601198d538ed722", func := "ratoon/ratoonlaw08.FramesValues", spec := "framesValues", unfollowed := true, recurses := true, apart := false }
def FramesValuesSaid : Prop := framesValuesRow.holds Try.pinned (OpenSpec.ofChange framesValuesSpec)

/-- ITS FALSE NEIGHBOUR: 'it returns false'. Refute it at one input. -/
def framesValuesWrong : ChangeSpec := { name := "framesValues", fn := fun _ => fun
  | [d1, d2, d3] => { results := [.lit (.bool false)], args := [d1, d2, d3] }
  | _ => none }
def FramesValuesWrongFalsely : Prop := framesValuesRow.holds Try.pinned (OpenSpec.ofChange framesValuesWrong)

/-- 'ratoonlaw08.FramesWrite': WHATEVER THE INPUT: true; the input reads as it did. -/
def framesWriteSpec : ChangeSpec := { name := "framesWrite", fn := fun _ => fun
  | [d1, d2, d3] => { results := [.lit (.bool true)], args := [d1, d2, d3] }
  | _ => none }
def framesWriteRow : OpenClaim := { program := "ytkgheilaleekdaa", sum := "50ddbeab11e82f09b3577f340ad2ad14106071143c234942f601198d538ed722", func := "ratoon/ratoonlaw08.FramesWrite", spec := "framesWrite", unfollowed := true, recurses := true, apart := false }
def FramesWriteSaid : Prop := framesWriteRow.holds Try.pinned (OpenSpec.ofChange framesWriteSpec)

/-- ITS FALSE NEIGHBOUR: 'it returns false'. Refute it at one input. -/
def framesWriteWrong : ChangeSpec := { name := "framesWrite", fn := fun _ => fun
  | [d1, d2, d3] => { results := [.lit (.bool false)], args := [d1, d2, d3] }
  | _ => none }
def FramesWriteWrongFalsely : Prop := framesWriteRow.holds Try.pinned (OpenSpec.ofChange framesWriteWrong)

/-- 'ratoonlaw08.FramesRead': WHATEVER THE INPUT: true; the input reads as it did. -/
def framesReadSpec : ChangeSpec := { name := "framesRead", fn := fun _ => fun
  | [d1, d2] => { results := [.lit (.bool true)], args := [d1, d2] }
  | _ => none }
def framesReadRow : OpenClaim := { program := "ytkgheilaleekdaa", sum := "50ddbeab11e82f09b3577f340ad2ad14106071143c234942f601198d538ed722", func := "ratoon/ratoonlaw08.FramesRead", spec := "framesRead", unfollowed := true, recurses := true, apart := false }
def FramesReadSaid : Prop := framesReadRow.holds Try.pinned (OpenSpec.ofChange framesReadSpec)

/-- ITS FALSE NEIGHBOUR: 'it returns false'. Refute it at one input. -/
def framesReadWrong : ChangeSpec := { name := "framesRead", fn := fun _ => fun
  | [d1, d2] => { results := [.lit (.bool false)], args := [d1, d2] }
  | _ => none }
def FramesReadWrongFalsely : Prop := framesReadRow.holds Try.pinned (OpenSpec.ofChange framesReadWrong)

/-- 'ratoonlaw08.FramesOrder': WHATEVER THE INPUT: true; the input reads as it did. -/
def framesOrderSpec : ChangeSpec := { name := "framesOrder", fn := fun _ => fun
  | [d1, d2, d3] => { results := [.lit (.bool true)], args := [d1, d2, d3] }
  | _ => none }
def framesOrderRow : OpenClaim := { program := "ytkgheilaleekdaa", sum := "50ddbeab11e82f09b3577f340ad2ad14106071143c234942f601198d538ed722", func := "ratoon/ratoonlaw08.FramesOrder", spec := "framesOrder", unfollowed := true, recurses := true, apart := false }
def FramesOrderSaid : Prop := framesOrderRow.holds Try.pinned (OpenSpec.ofChange framesOrderSpec)

/-- ITS FALSE NEIGHBOUR: 'it returns false'. Refute it at one input. -/
def framesOrderWrong : ChangeSpec := { name := "framesOrder", fn := fun _ => fun
  | [d1, d2, d3] => { results := [.lit (.bool false)], args := [d1, d2, d3] }
  | _ => none }
def FramesOrderWrongFalsely : Prop := framesOrderRow.holds Try.pinned (OpenSpec.ofChange framesOrderWrong)

/-- 'ratoonlaw08.FramesWhole': WHATEVER THE INPUT: true; the input reads as it did. -/
def framesWholeSpec : ChangeSpec := { name := "framesWhole", fn := fun _ => fun
  | [d1, d2] => { results := [.lit (.bool true)], args := [d1, d2] }
  | _ => none }
def framesWholeRow : OpenClaim := { program := "ytkgheilaleekdaa", sum := "50ddbeab11e82f09b3577f340ad2ad14106071143c234942f601198d538ed722", func := "ratoon/ratoonlaw08.FramesWhole", spec := "framesWhole", unfollowed := true, recurses := true, apart := false }
def FramesWholeSaid : Prop := framesWholeRow.holds Try.pinned (OpenSpec.ofChange framesWholeSpec)

/-- ITS FALSE NEIGHBOUR: 'it returns false'. Refute it at one input. -/
def framesWholeWrong : ChangeSpec := { name := "framesWhole", fn := fun _ => fun
  | [d1, d2] => { results := [.lit (.bool false)], args := [d1, d2] }
  | _ => none }
def FramesWholeWrongFalsely : Prop := framesWholeRow.holds Try.pinned (OpenSpec.ofChange framesWholeWrong)

/-- 'ratoonlaw08.FramesCopy': WHATEVER THE INPUT: true; the input reads as it did. -/
def framesCopySpec : ChangeSpec := { name := "framesCopy", fn := fun _ => fun
  | [d1, d2, d3] => { results := [.lit (.bool true)], args := [d1, d2, d3] }
  | _ => none }
def framesCopyRow : OpenClaim := { program := "ytkgheilaleekdaa", sum := "50ddbeab11e82f09b3577f340ad2ad14106071143c234942f601198d538ed722", func := "ratoon/ratoonlaw08.FramesCopy", spec := "framesCopy", unfollowed := true, recurses := true, apart := false }
def FramesCopySaid : Prop := framesCopyRow.holds Try.pinned (OpenSpec.ofChange framesCopySpec)

/-- ITS FALSE NEIGHBOUR: 'it returns false'. Refute it at one input. -/
def framesCopyWrong : ChangeSpec := { name := "framesCopy", fn := fun _ => fun
  | [d1, d2, d3] => { results := [.lit (.bool false)], args := [d1, d2, d3] }
  | _ => none }
def FramesCopyWrongFalsely : Prop := framesCopyRow.holds Try.pinned (OpenSpec.ofChange framesCopyWrong)

/- THE SECOND FORM. 'bulk': how many values and letters a reading holds, each counted each time it is reached (what is shared counts as often as it is met; a slice's spare places count too). A statement '..UptoSaid' is the law's where the arguments, and the package variables that the reading takes, are together of bulk at most 1048576: NARROWER than '..Said'. Prove '..Said' where nothing that the law and all that it calls make is longer than what came in: it says more and counts as full. Else prove '..UptoSaid'. A law counts once. -/
mutual
def uptoBulk {H : Type} : DataW H → Nat
  | .lit (.string bytes) => bytes.length + 1
  | .lit _ => 1
  | .nil => 1
  | .ptr d => uptoBulk d + 1
  | .slice elems spare => uptoBulkAll elems + uptoBulkAll spare + 1
  | .agg parts => uptoBulkAll parts + 1
  | .iface _ d => uptoBulk d + 1
  | .map entries => uptoBulkEntries entries + 1
  | .held _ => 1
def uptoBulkAll {H : Type} : List (DataW H) → Nat
  | [] => 0
  | d :: r => uptoBulk d + uptoBulkAll r
def uptoBulkEntries {H : Type} : List (Lit × DataW H) → Nat
  | [] => 0
  | x :: r => uptoBulkEntry x + uptoBulkEntries r
def uptoBulkEntry {H : Type} : Lit × DataW H → Nat
  | (.string bytes, d) => bytes.length + uptoBulk d + 1
  | (_, d) => uptoBulk d + 1
 end
def uptoSmall : (H : Type) → List (DataW H) → Bool := fun _ ds => decide (uptoBulkAll ds ≤ 1048576)
def OpenSpec.upto (s : _root_.Go.ChangeSpec) : _root_.Go.OpenSpec := { _root_.Go.OpenSpec.ofChange s with cond := some uptoSmall }

/-- 'ratoonlaw08.FramesKeeps', WHERE WHAT IT READS IS OF BULK AT MOST 1048576: true; the input reads as it did. -/
def framesKeepsUptoRow : OpenClaim := { program := "ytkgheilaleekdaa", sum := "50ddbeab11e82f09b3577f340ad2ad14106071143c234942f601198d538ed722", func := "ratoon/ratoonlaw08.FramesKeeps", spec := "framesKeeps", unfollowed := true, recurses := true, apart := false, narrowed := true }
def FramesKeepsUptoSaid : Prop := framesKeepsUptoRow.holds Try.pinned (OpenSpec.upto framesKeepsSpec)

/-- 'ratoonlaw08.FramesValues', WHERE WHAT IT READS IS OF BULK AT MOST 1048576: true; the input reads as it did. -/
def framesValuesUptoRow : OpenClaim := { program := "ytkgheilaleekdaa", sum := "50ddbeab11e82f09b3577f340ad2ad14106071143c234942f601198d538ed722", func := "ratoon/ratoonlaw08.FramesValues", spec := "framesValues", unfollowed := true, recurses := true, apart := false, narrowed := true }
def FramesValuesUptoSaid : Prop := framesValuesUptoRow.holds Try.pinned (OpenSpec.upto framesValuesSpec)

/-- 'ratoonlaw08.FramesWrite', WHERE WHAT IT READS IS OF BULK AT MOST 1048576: true; the input reads as it did. -/
def framesWriteUptoRow : OpenClaim := { program := "ytkgheilaleekdaa", sum := "50ddbeab11e82f09b3577f340ad2ad14106071143c234942f601198d538ed722", func := "ratoon/ratoonlaw08.FramesWrite", spec := "framesWrite", unfollowed := true, recurses := true, apart := false, narrowed := true }
def FramesWriteUptoSaid : Prop := framesWriteUptoRow.holds Try.pinned (OpenSpec.upto framesWriteSpec)

/-- 'ratoonlaw08.FramesRead', WHERE WHAT IT READS IS OF BULK AT MOST 1048576: true; the input reads as it did. -/
def framesReadUptoRow : OpenClaim := { program := "ytkgheilaleekdaa", sum := "50ddbeab11e82f09b3577f340ad2ad14106071143c234942f601198d538ed722", func := "ratoon/ratoonlaw08.FramesRead", spec := "framesRead", unfollowed := true, recurses := true, apart := false, narrowed := true }
def FramesReadUptoSaid : Prop := framesReadUptoRow.holds Try.pinned (OpenSpec.upto framesReadSpec)

/-- 'ratoonlaw08.FramesOrder', WHERE WHAT IT READS IS OF BULK AT MOST 1048576: true; the input reads as it did. -/
def framesOrderUptoRow : OpenClaim := { program := "ytkgheilaleekdaa", sum := "50ddbeab11e82f09b3577f340ad2ad14106071143c234942f601198d538ed722", func := "ratoon/ratoonlaw08.FramesOrder", spec := "framesOrder", unfollowed := true, recurses := true, apart := false, narrowed := true }
def FramesOrderUptoSaid : Prop := framesOrderUptoRow.holds Try.pinned (OpenSpec.upto framesOrderSpec)

/-- 'ratoonlaw08.FramesWhole', WHERE WHAT IT READS IS OF BULK AT MOST 1048576: true; the input reads as it did. -/
def framesWholeUptoRow : OpenClaim := { program := "ytkgheilaleekdaa", sum := "50ddbeab11e82f09b3577f340ad2ad14106071143c234942f601198d538ed722", func := "ratoon/ratoonlaw08.FramesWhole", spec := "framesWhole", unfollowed := true, recurses := true, apart := false, narrowed := true }
def FramesWholeUptoSaid : Prop := framesWholeUptoRow.holds Try.pinned (OpenSpec.upto framesWholeSpec)

/-- 'ratoonlaw08.FramesCopy', WHERE WHAT IT READS IS OF BULK AT MOST 1048576: true; the input reads as it did. -/
def framesCopyUptoRow : OpenClaim := { program := "ytkgheilaleekdaa", sum := "50ddbeab11e82f09b3577f340ad2ad14106071143c234942f601198d538ed722", func := "ratoon/ratoonlaw08.FramesCopy", spec := "framesCopy", unfollowed := true, recurses := true, apart := false, narrowed := true }
def FramesCopyUptoSaid : Prop := framesCopyUptoRow.holds Try.pinned (OpenSpec.upto framesCopySpec)

end Rows
end Go.Proofs.Ytkgheilaleekdaa
