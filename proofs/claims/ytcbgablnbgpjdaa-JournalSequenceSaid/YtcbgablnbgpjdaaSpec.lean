/-
  Plain: the journal (layer 36). No program is named here.
-/
import Derived.Test.YtcbgablnbgpjdaaSumSpec
namespace Jr
/-- A write: a block and its bytes. -/
abbrev Wr := Int × List UInt8
def home (n : Int) : Bool := decide (0 ≤ n) && (decide (n < 96) && (decide (n < 1) || decide (12 < n)))
def good (w : Wr) : Bool := home w.1 && decide (w.2.length = 128)
/-- No block occurs in the first k writes twice. -/
def apart (l : List Wr) : Bool := decide ((l.map Prod.fst).Nodup)
def valid (l : List Wr) : Bool := l.all good && (apart l && (decide (1 ≤ l.length) && decide (l.length ≤ 11)))
/-- The bytes of a number, the most significant one first. -/
def num (n : UInt64) (k : Nat) : List UInt8 := ((List.range k).map (Sum.byte n)).reverse
def ib (n : Int) : UInt8 := Sum.byte (Sum.word n) 0
/-- The bytes of block n. -/
def blk (d : List UInt8) (n : Nat) : List UInt8 := (d.drop (n * 128)).take 128
def slots (d : List UInt8) : List UInt8 := (d.drop 256).take 1408
/-- The first 20 bytes of a header: c is its fourth byte. -/
def pre (c : UInt8) (bl : List Int) (seq : Int) : List UInt8 :=
  [74, 82, 78, c, UInt8.ofNat bl.length] ++ ((List.range 11).map fun i => if h : i < bl.length then ib bl[i] else 0) ++ num (Sum.word seq) 4
def mk (c : UInt8) (bl : List Int) (seq : Int) (sl : List UInt8) : List UInt8 :=
  pre c bl seq ++ num (Sum.of (pre c bl seq ++ sl)) 8 ++ List.replicate 100 0
/-- The header of an update; the empty one. -/
def head (seq : Int) (l : List Wr) (sl : List UInt8) : List UInt8 := if l = [] then mk 48 [] seq [] else mk 49 (l.map Prod.fst) seq sl
def idle (seq : Int) : List UInt8 := mk 48 [] seq []
/-- The bytes s are put at place p. -/
def put (d : List UInt8) (p : Nat) (s : List UInt8) : List UInt8 := d.take p ++ s ++ d.drop (p + s.length)
/-- A write that may be applied. -/
def fits (w : Wr) : Bool := decide (0 ≤ w.1) && (decide (w.1 < 96) && decide (w.2.length = 128))
def app (d : List UInt8) : List Wr → List UInt8
  | [] => d
  | w :: l => app (put d (w.1.toNat * 128) w.2) l
def apply (d : List UInt8) (l : List Wr) : List UInt8 × Int :=
  if d.length ≠ 12288 then ([], 1) else if l.all fits then (app d l, 0) else ([], 1)
def empty (seq : Int) : List UInt8 × Int := if seq < 0 ∨ 4294967295 < seq then ([], 2) else (idle seq, 0)
/-- The number in some bytes. -/
def get (l : List UInt8) : UInt64 := l.foldl (fun n x => (n <<< 8) ||| x.toUInt64) 0
/-- The writes of a log: the numbers of the blocks and the slots. -/
def logged (d : List UInt8) (k : Nat) : List Wr := (List.range k).map fun i => (((blk d 1).getD (5 + i) 0).toNat, blk d (2 + i))
def seqOf (d : List UInt8) : Int := ((get ((blk d 1).drop 16 |>.take 4)).toNat : Int)
def read (d : List UInt8) : Int × List Wr × Int :=
  if d.length ≠ 12288 then (0, [], 1)
  else
    let h := blk d 1
    let n := (h.getD 4 0).toNat
    let l := logged d (min n 11)
    if 11 < n ∨ (0 < n ∧ valid l = false) then (0, [], 4)
    else
      let w := head (seqOf d) l (slots d)
      if h.take 20 ≠ w.take 20 ∨ h.drop 28 ≠ w.drop 28 then (0, [], 4)
      else if (h.drop 20).take 8 ≠ (w.drop 20).take 8 then (0, [], 5)
      else (seqOf d, l, 0)
def homes (seq : Int) (l : List Wr) : List Wr := l ++ [(1, idle seq)]
def logs (l : List Wr) : List Wr := (List.range l.length).map fun i => ((2 + i : Nat), (l.getD i (0, [])).2)
def plan (d : List UInt8) (l : List Wr) : List Wr × List Wr × Int :=
  if (read d).2.2 ≠ 0 then ([], [], (read d).2.2)
  else if valid l = false then ([], [], 1)
  else if (read d).2.1 ≠ [] then ([], [], 7)
  else if (read d).1 = 4294967295 then ([], [], 2)
  else (logs l ++ [(1, mk 49 (l.map Prod.fst) ((read d).1 + 1) (slots (app d (logs l))))], homes ((read d).1 + 1) l, 0)
def recover (d : List UInt8) : List UInt8 × Bool × Int :=
  if (read d).2.2 ≠ 0 then ([], false, (read d).2.2)
  else if (read d).2.1 = [] then (d, false, 0)
  else (app d (homes (read d).1 (read d).2.1), true, 0)
/-- The home blocks of a disk. -/
def homeOf (d : List UInt8) : List UInt8 := d.take 128 ++ d.drop 1664
/-- A disk that is described. -/
abbrev Sp := List Wr × Int × List Wr
/-- As many of the bytes s as there is room for in a block. -/
def pack (d : List UInt8) (n : Nat) (s : List UInt8) : List UInt8 := put d (n * 128) (s.take 128)
def strew (d : List UInt8) : List Wr → List UInt8
  | [] => d
  | w :: l => strew (if 0 ≤ w.1 ∧ w.1 < 96 ∧ w.1 ≠ 1 then pack d w.1.toNat w.2 else d) l
def fill (d : List UInt8) (k : Nat) : List Wr → List UInt8
  | [] => d
  | w :: l => fill (pack d k w.2) (k + 1) l
def zeros : List UInt8 := List.replicate 12288 0
def disk (x : Sp) : List UInt8 :=
  let d := pack (strew zeros (x.1.take 20)) 1 (idle x.2.1)
  if valid x.2.2 = true then
    let d := fill d 2 x.2.2
    pack d 1 (head x.2.1 x.2.2 (slots d))
  else d
def full (l : List Wr) : List Wr := (l.take 20).map fun w => (w.1, w.2.take 128 ++ List.replicate (128 - w.2.length) 0)
def short (l : List Wr) : Bool := decide (∀ w ∈ l, w.2.length ≤ 300) && decide (l.length ≤ 20)
def few (x : Sp) : Bool := short x.1 && short x.2.2
end Jr
