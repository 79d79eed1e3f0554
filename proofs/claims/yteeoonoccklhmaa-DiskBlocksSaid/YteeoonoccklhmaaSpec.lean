/-
  Plain: the disk (layer 11). No program is named here.
-/
import Derived.Test.YteeoonoccklhmaaIdx0
namespace Dk
/-- A command: tag, operation, place, data. An answer: tag, number, data. -/
abbrev Cm := Int × Int × Int × List UInt8
abbrev An := Int × Int × List UInt8
/-- A channel: open, command, left, last answer. -/
abbrev Ch := Bool × Cm × Int × An
abbrev St := List (List UInt8) × Ch

def zcm : Cm := (0, 0, 0, [])
def zan : An := (0, 0, [])
def zch : Ch := (false, zcm, 0, zan)
def zst : St := ([], zch)

def prop (t : Int) : Bool := decide (2 ≤ t) && decide (t.tmod 2 = 0)
def blk (n : Int) : Bool := decide (0 ≤ n) && decide (n < 160)
/-- A channel is valid. -/
def validC (c : Ch) : Bool :=
  if (!decide (c.2.2.2.1 = 0) && !prop c.2.2.2.1) = true then false
  else if c.1 = true then prop c.2.1.1 && (decide (c.2.2.2.1 ≤ c.2.1.1) && (decide (1 ≤ c.2.2.1) && decide (c.2.2.1 ≤ 3)))
  else decide (c.2.1 = zcm) && decide (c.2.2.1 = 0)
def all128 (l : List (List UInt8)) : Bool := l.all fun b => decide (b.length = 128)
def valid (s : St) : Bool := decide (s.1.length = 160) && (validC s.2 && all128 s.1)
/-- How long a command lasts. -/
def dur (c : Cm) : Int := if blk c.2.2.1 = true then 1 + c.2.2.1.tmod 3 else 1
/-- The greatest tag that was taken. -/
def top (c : Ch) : Int := if c.1 = true then c.2.1.1 else c.2.2.2.1
def give (s : St) (c : Cm) : St × Int :=
  if valid s = false then (zst, 1)
  else if prop c.1 = false then (zst, 2)
  else if c.1 < top s.2 then (zst, 19)
  else if s.2.1 = true then (if top s.2 < c.1 then (zst, 12) else (s, 0))
  else if c.1 = top s.2 then ((s.1, (true, (c.1, 0, 0, []), 1, s.2.2.2.2)), 0)
  else ((s.1, (true, c, dur c, s.2.2.2.2)), 0)
/-- The answer to a command, and the blocks behind it. -/
def answer (l : List (List UInt8)) (c : Cm) : An × List (List UInt8) :=
  if (c.2.1 ≠ 0 ∧ c.2.1 ≠ 1) ∨ (c.2.1 = 0 ∧ c.2.2.2.length ≠ 0) ∨ (c.2.1 = 1 ∧ c.2.2.2.length ≠ 128) then ((c.1, -1, []), l)
  else if blk c.2.2.1 = false then ((c.1, -2, []), l)
  else if c.2.1 = 0 then ((c.1, 0, l.getD c.2.2.1.toNat []), l)
  else ((c.1, 0, []), l.set c.2.2.1.toNat c.2.2.2)
def tick (s : St) : St × List An :=
  if valid s = false then (zst, [])
  else if s.2.1 = false then (s, [])
  else if 1 < s.2.2.2.1 then ((s.1, (true, s.2.2.1, s.2.2.2.1 - 1, s.2.2.2.2)), [])
  else if s.2.2.1.1 = s.2.2.2.2.1 then ((s.1, (false, zcm, 0, s.2.2.2.2)), [s.2.2.2.2])
  else (((answer s.1 s.2.2.1).2, (false, zcm, 0, (answer s.1 s.2.2.1).1)), [(answer s.1 s.2.2.1).1])
def content (s : St) : List UInt8 := s.1.flatten
def few (s : St) : Bool := decide (∀ b ∈ s.1, b.length ≤ 200) && (decide (s.1.length ≤ 200) && (decide (s.2.2.1.2.2.2.length ≤ 300) && decide (s.2.2.2.2.2.2.length ≤ 300)))
end Dk
