/- fraction.Parse of any text: what it reads, as a plain function, and the walk. The lexer in plain words: what is read at the beginning of a text, in a line, in a text. Tokens in memory. lexer: word, number, bracket. lexer.number. -/
import Derived.Test.YtaiglcbgllnciaaGreatDoorFParNu
import Derived.Test.YtaiglcbgllnciaaGreatDoorLowNu
import Derived.Test.YtaiglcbgllnciaaGreatDoorGKNu
import Derived.Test.YtaiglcbgllnciaaGreatDoorGENu
import Derived.Deep.RegionHeld3
import Derived.Laws.Runes
namespace Go.Proofs.YtaiglcbgllnciaaGreatDoor
open Go.RowKit Go.Lib

theorem repeat_zeros (n : Nat) (w : World) (hn : n ≤ 1000000) : Calls Tryz.prog 94 #[.string ⟨#[48]⟩, .int .i64 n] w fun e w' => e = .returned (.string ⟨(List.replicate n 48).toArray⟩) ∧ Below w.heap.size w w' := by
  have h := repeat_any [48] n w hn (by simp)
  have e : ∀ m : Nat, Lib.repeatL [48] m = List.replicate m 48 := by
    intro m
    induction m with
    | zero => rfl
    | succ m ih => rw [Lib.repeatL, ih, List.replicate_succ]; rfl
  rw [e n] at h
  exact h

/-- What is read: an error, or a numerator and a denominator. -/
inductive Frd where
  | bad (e : Int)
  | good (n d : Nat)
def sgnd (b : Bool) (n : Nat) : Int := if b then -(n : Int) else n
end Go.Proofs.YtaiglcbgllnciaaGreatDoor

namespace Go.Proofs.YtaiglcbgllnciaaGreatDoor
open Go.RowKit Go.Lib

/-- A token. -/
structure Tok where
  kind : Int
  text : List UInt8
  num : List UInt8
  den : List UInt8
  row : List Int
  line : Int
  col : Int

/-- What is read at the beginning of a text: an error, or a token without its place, and how many bytes it has. -/
inductive Nrd where
  | bad (e : Int)
  | good (kind : Int) (text num den : List UInt8) (row : List Int) (n : Nat)

/-- What is read in a line: an error at a column, or the tokens so far. -/
inductive Lrd where
  | bad (col e : Int)
  | good (l : List Tok)
/-- What is read in a text: an error at a place, or the tokens. -/
inductive Srd where
  | bad (line col e : Int)
  | good (l : List Tok)
end Go.Proofs.YtaiglcbgllnciaaGreatDoor

namespace Go.Proofs.YtaiglcbgllnciaaGreatDoor
open Go.RowKit Go.Lib

def tokVals (t : Tok) (rv : Value) : List Value := [.int .i64 t.kind, .string ⟨t.text.toArray⟩, .string ⟨t.num.toArray⟩, .string ⟨t.den.toArray⟩, rv, .int .i64 t.line, .int .i64 t.col]
def flat : List Tok → List Value → List Value
  | t :: l, rv :: r => tokVals t rv ++ flat l r
  | _, _ => []
/-- A slice of tokens. -/
def IsToks (w : World) (B : Nat) (v : Value) (l : List Tok) : Prop := ∃ A c rvs, v = .slice A l.length c ∧ l.length ≤ c ∧ c ≤ maxLen ∧ rvs.length = l.length ∧ Row w B 7 A l.length (flat l rvs) ∧ ∀ (k : Nat) t rv, l[k]? = some t → rvs[k]? = some rv → IsRow w B rv t.row
theorem IsToks.keep {w w' : World} {B : Nat} {v : Value} {l : List Tok} (h : IsToks w B v l) (hb : Below B w w') : IsToks w' B v l := by
  obtain ⟨A, c, rvs, rfl, h1, h2, h3, h4, h5⟩ := h
  exact ⟨A, c, rvs, rfl, h1, h2, h3, h4.below hb (Nat.le_refl _), fun k t rv a b => (h5 k t rv a b).keep hb⟩
theorem IsToks.up {w : World} {B B' : Nat} {v : Value} {l : List Tok} (h : IsToks w B v l) (hB : B ≤ B') : IsToks w B' v l := by
  obtain ⟨A, c, rvs, rfl, h1, h2, h3, h4, h5⟩ := h
  exact ⟨A, c, rvs, rfl, h1, h2, h3, h4.up hB, fun k t rv a b => (h5 k t rv a b).up hB⟩
theorem IsToks.lift {w w' : World} {v : Value} {l : List Tok} (h : IsToks w w.heap.size v l) (hb : Below w.heap.size w w') : IsToks w' w'.heap.size v l := (h.keep hb).up hb.size

end Go.Proofs.YtaiglcbgllnciaaGreatDoor

namespace Go.Proofs.YtaiglcbgllnciaaGreatDoor
open Go.RowKit Go.Lib

theorem size_below {w w' : World} {o : Obj} (hb : Below (w.heap.size + 1) (w.alloc o) w') : w.heap.size < w'.heap.size := by have := hb.size; simp at this; omega

end Go.Proofs.YtaiglcbgllnciaaGreatDoor

namespace Go.Proofs.YtaiglcbgllnciaaGreatDoor
open Go.RowKit Go.Lib

theorem sgnd_abs (b : Bool) (n : Nat) : (sgnd b n).natAbs = n := by unfold sgnd; split <;> omega

end Go.Proofs.YtaiglcbgllnciaaGreatDoor
