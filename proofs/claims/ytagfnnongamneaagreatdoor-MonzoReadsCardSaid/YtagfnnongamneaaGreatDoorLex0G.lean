/- The lexer in plain words: what is read at the beginning of a text, in a line, in a text. -/
import Derived.Test.YtagfnnongamneaaGreatDoorGJ
import Derived.Test.YtagfnnongamneaaGreatDoorGK
import Derived.Test.YtagfnnongamneaaGreatDoorGE
namespace Go.Proofs.YtagfnnongamneaaGreatDoor
open Go.RowKit Go.Lib

/-- A token. -/
structure Tok where
  kind : Int
  text : List UInt8
  num : List UInt8
  den : List UInt8
  row : List Int
  line : Int
  col : Int

def letB (c : UInt8) : Bool := decide (97 ≤ (c ||| 32).toNat) && decide ((c ||| 32).toNat ≤ 122)
def partB (c : UInt8) : Bool := letB c || digB c || c == 95 || c == 35 || c == 39
def numB (c : UInt8) : Bool := digB c || c == 46 || c == 47
/-- How many bytes at the beginning are of a class. -/
def runLen (p : UInt8 → Bool) : List UInt8 → Nat
  | [] => 0
  | c :: t => if p c then runLen p t + 1 else 0
theorem runLen_le (p : UInt8 → Bool) : ∀ l, runLen p l ≤ l.length
  | [] => Nat.le_refl _
  | c :: t => by
    rw [runLen]
    split
    · have := runLen_le p t; simp; omega
    · exact Nat.zero_le _

/-- What fraction.Parse reads, as texts. -/
def fracIdx (s : List UInt8) : Int := Lib.indexAny (Lib.trimPrefix s [45]) [47, 46]
def fracOf (s : List UInt8) : Frd := if 400 < s.length then .bad 16 else fracRead (Lib.trimPrefix s [45]) (fracIdx s)
def isNeg (s : List UInt8) : Bool := if 400 < s.length then false else Lib.hasPrefix s [45]

/-- What is read at the beginning of a text: an error, or a token without its place, and how many bytes it has. -/
inductive Nrd where
  | bad (e : Int)
  | good (kind : Int) (text num den : List UInt8) (row : List Int) (n : Nat)

def wordRead (s : List UInt8) : Nrd := if 32 < runLen partB s then .bad 8 else .good 1 (s.take (runLen partB s)) [] [] [] (runLen partB s)
def numLen (s : List UInt8) : Nat := 1 + runLen numB (s.drop 1)
def numTok (b : Bool) (k : Nat) : Frd → Nrd
  | .bad _ => .bad 2
  | .good n d => .good 2 (ratText (itoa (lowN (sgnd b n) d)) (itoa (lowD (sgnd b n) d))) (itoa (lowN (sgnd b n) d)) (itoa (lowD (sgnd b n) d)) [] k
def numRead (s : List UInt8) : Nrd := numTok (isNeg (s.take (numLen s))) (numLen s) (fracOf (s.take (numLen s)))
def brackEnd (s : List UInt8) : UInt8 := if s[0]?.getD 0 = 60 then 93 else 62
def brackKind (s : List UInt8) : Int := if s[0]?.getD 0 = 60 then 4 else 3
def brackTok (kind : Int) (t : List UInt8) : Rrd → Nrd
  | .bad e => .bad e
  | .good x _ => .good kind t [] [] x t.length
def brackLen (s : List UInt8) : Nat := (Lib.indexByte s (brackEnd s) + 1).toNat
def brackRead (s : List UInt8) : Nrd := if brackLen s = 0 then .bad 15 else brackTok (brackKind s) (s.take (brackLen s)) (rowRead (s.take (brackLen s)))
def marks : List UInt8 := [40, 41, 123, 125, 58, 44, 61, 124, 64, 126, 42, 43]
def nextRead (s : List UInt8) : Nrd :=
  if letB (s[0]?.getD 0) then wordRead s
  else if digB (s[0]?.getD 0) || (s[0]?.getD 0 == 45 && (decide (1 < s.length) && digB (s[1]?.getD 0))) then numRead s
  else if s[0]?.getD 0 = 91 ∨ s[0]?.getD 0 = 60 then brackRead s
  else if 0 ≤ Lib.indexByte marks (s[0]?.getD 0) then .good 5 (s.take 1) [] [] [] 1
  else .bad 15

def blankB (c : UInt8) : Bool := c == 32 || c == 9 || c == 13
/-- What is read in a line: an error at a column, or the tokens so far. -/
inductive Lrd where
  | bad (col e : Int)
  | good (l : List Tok)
def lineStep (i : Nat) (k : Nat) (acc : List Tok) : Nrd → (List Tok → Nat → Lrd) → Lrd
  | .bad e, _ => .bad (k + 1) e
  | .good kd t n d x m, go => if acc.length = 4000 then .bad (k + 1) 4 else go (acc ++ [⟨kd, t, n, d, x, i + 1, k + 1⟩]) (k + m)
def lineRead (i : Nat) (line : List UInt8) : Nat → Nat → List Tok → Lrd
  | 0, _, acc => .good acc
  | g + 1, k, acc =>
    if k < line.length then
      (if blankB (line[k]?.getD 0) then lineRead i line g (k + 1) acc
       else lineStep i k acc (nextRead (line.drop k)) fun a m => lineRead i line g m a)
    else .good acc

/-- What is read in a text: an error at a place, or the tokens. -/
inductive Srd where
  | bad (line col e : Int)
  | good (l : List Tok)
def cutSemi (s : List UInt8) : List UInt8 := s.takeWhile (fun c => c != 59)
def endTok (i : Nat) (full : List UInt8) : Tok := ⟨6, [10], [], [], [], i + 1, full.length + 1⟩
def linesRead : Nat → List (List UInt8) → List Tok → Srd
  | _, [], acc => .good acc
  | i, full :: rest, acc =>
    match lineRead i (cutSemi full) (full.length + 1) 0 acc with
    | .bad c e => .bad (i + 1) c e
    | .good l =>
      if l.length = acc.length then linesRead (i + 1) rest l
      else if l.length = 4000 then .bad (i + 1) (full.length + 1) 4
      else linesRead (i + 1) rest (l ++ [endTok i full])
def scanRead (s : List UInt8) : Srd := if 65536 < s.length then .bad 1 1 16 else linesRead 0 (cutAll 10 s) []

end Go.Proofs.YtagfnnongamneaaGreatDoor
