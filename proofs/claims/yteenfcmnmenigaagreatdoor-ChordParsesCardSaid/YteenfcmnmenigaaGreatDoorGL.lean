/- The lexer in plain words: what is read at the beginning of a text, in a line, in a text. lexer: the classes of bytes, and length. Tokens in memory. lexer: word, number, bracket. lexer.number. lexer.bracket and lexer.next. fraction.Parse of any text: the whole contract. lexer.next. -/
import Derived.Test.YteenfcmnmenigaaGreatDoorGJ
import Derived.Test.YteenfcmnmenigaaGreatDoorGK
import Derived.Test.YteenfcmnmenigaaGreatDoorGE
import Derived.Deep.RegionHeld3
import Derived.Test.YteenfcmnmenigaaGreatDoorLowG
namespace Go.Proofs.YteenfcmnmenigaaGreatDoor
open Go.RowKit Go.Lib

/-- A token. -/
structure Tok where
  kind : Int
  text : List UInt8
  num : List UInt8
  den : List UInt8
  row : List Int
  line : Int
  col : Int

def letB (c : UInt8) : Bool := decide (97 ≤ (c ||| 32).toNat) && decide ((c ||| 32).toNat ≤ 122)
def partB (c : UInt8) : Bool := letB c || digB c || c == 95 || c == 35 || c == 39
def numB (c : UInt8) : Bool := digB c || c == 46 || c == 47
/-- How many bytes at the beginning are of a class. -/
def runLen (p : UInt8 → Bool) : List UInt8 → Nat
  | [] => 0
  | c :: t => if p c then runLen p t + 1 else 0
theorem runLen_le (p : UInt8 → Bool) : ∀ l, runLen p l ≤ l.length
  | [] => Nat.le_refl _
  | c :: t => by
    rw [runLen]
    split
    · have := runLen_le p t; simp; omega
    · exact Nat.zero_le _

/-- What fraction.Parse reads, as texts. -/
def fracIdx (s : List UInt8) : Int := Lib.indexAny (Lib.trimPrefix s [45]) [47, 46]
def fracOf (s : List UInt8) : Frd := if 400 < s.length then .bad 16 else fracRead (Lib.trimPrefix s [45]) (fracIdx s)
def isNeg (s : List UInt8) : Bool := if 400 < s.length then false else Lib.hasPrefix s [45]

/-- What is read at the beginning of a text: an error, or a token without its place, and how many bytes it has. -/
inductive Nrd where
  | bad (e : Int)
  | good (kind : Int) (text num den : List UInt8) (row : List Int) (n : Nat)

def wordRead (s : List UInt8) : Nrd := if 32 < runLen partB s then .bad 8 else .good 1 (s.take (runLen partB s)) [] [] [] (runLen partB s)
def numLen (s : List UInt8) : Nat := 1 + runLen numB (s.drop 1)
def numTok (b : Bool) (k : Nat) : Frd → Nrd
  | .bad _ => .bad 2
  | .good n d => .good 2 (ratText (itoa (lowN (sgnd b n) d)) (itoa (lowD (sgnd b n) d))) (itoa (lowN (sgnd b n) d)) (itoa (lowD (sgnd b n) d)) [] k
def numRead (s : List UInt8) : Nrd := numTok (isNeg (s.take (numLen s))) (numLen s) (fracOf (s.take (numLen s)))
def brackEnd (s : List UInt8) : UInt8 := if s[0]?.getD 0 = 60 then 93 else 62
def brackKind (s : List UInt8) : Int := if s[0]?.getD 0 = 60 then 4 else 3
def brackTok (kind : Int) (t : List UInt8) : Rrd → Nrd
  | .bad e => .bad e
  | .good x _ => .good kind t [] [] x t.length
def brackLen (s : List UInt8) : Nat := (Lib.indexByte s (brackEnd s) + 1).toNat
def brackRead (s : List UInt8) : Nrd := if brackLen s = 0 then .bad 15 else brackTok (brackKind s) (s.take (brackLen s)) (rowRead (s.take (brackLen s)))
def marks : List UInt8 := [40, 41, 123, 125, 58, 44, 61, 124, 64, 126, 42, 43]
def nextRead (s : List UInt8) : Nrd :=
  if letB (s[0]?.getD 0) then wordRead s
  else if digB (s[0]?.getD 0) || (s[0]?.getD 0 == 45 && (decide (1 < s.length) && digB (s[1]?.getD 0))) then numRead s
  else if s[0]?.getD 0 = 91 ∨ s[0]?.getD 0 = 60 then brackRead s
  else if 0 ≤ Lib.indexByte marks (s[0]?.getD 0) then .good 5 (s.take 1) [] [] [] 1
  else .bad 15

def blankB (c : UInt8) : Bool := c == 32 || c == 9 || c == 13
/-- What is read in a line: an error at a column, or the tokens so far. -/
inductive Lrd where
  | bad (col e : Int)
  | good (l : List Tok)
def lineStep (i : Nat) (k : Nat) (acc : List Tok) : Nrd → (List Tok → Nat → Lrd) → Lrd
  | .bad e, _ => .bad (k + 1) e
  | .good kd t n d x m, go => if acc.length = 4000 then .bad (k + 1) 4 else go (acc ++ [⟨kd, t, n, d, x, i + 1, k + 1⟩]) (k + m)
def lineRead (i : Nat) (line : List UInt8) : Nat → Nat → List Tok → Lrd
  | 0, _, acc => .good acc
  | g + 1, k, acc =>
    if k < line.length then
      (if blankB (line[k]?.getD 0) then lineRead i line g (k + 1) acc
       else lineStep i k acc (nextRead (line.drop k)) fun a m => lineRead i line g m a)
    else .good acc

/-- What is read in a text: an error at a place, or the tokens. -/
inductive Srd where
  | bad (line col e : Int)
  | good (l : List Tok)
def cutSemi (s : List UInt8) : List UInt8 := s.takeWhile (fun c => c != 59)
def endTok (i : Nat) (full : List UInt8) : Tok := ⟨6, [10], [], [], [], i + 1, full.length + 1⟩
def linesRead : Nat → List (List UInt8) → List Tok → Srd
  | _, [], acc => .good acc
  | i, full :: rest, acc =>
    match lineRead i (cutSemi full) (full.length + 1) 0 acc with
    | .bad c e => .bad (i + 1) c e
    | .good l =>
      if l.length = acc.length then linesRead (i + 1) rest l
      else if l.length = 4000 then .bad (i + 1) (full.length + 1) 4
      else linesRead (i + 1) rest (l ++ [endTok i full])
def scanRead (s : List UInt8) : Srd := if 65536 < s.length then .bad 1 1 16 else linesRead 0 (cutAll 10 s) []

end Go.Proofs.YteenfcmnmenigaaGreatDoor

namespace Go.Proofs.YteenfcmnmenigaaGreatDoor
open Go.RowKit Go.Lib

theorem or32 (c : UInt8) : (c ||| 32).toNat = c.toNat ||| 32 := by rw [UInt8.toNat_or]; rfl

set_option maxRecDepth 100000 in
theorem bits_or32 : ∀ n : Nat, n < 256 → bits BinOp.or IntKind.u8 (n : Int) 32 = ((n ||| 32 : Nat) : Int) := by
  intro n hn
  have h : ∀ m : Fin 256, bits BinOp.or IntKind.u8 ((m.val : Nat) : Int) 32 = ((m.val ||| 32 : Nat) : Int) := by decide
  exact h ⟨n, hn⟩

theorem u8_beq (c : UInt8) (n : Nat) (h : n < 256) : (c == UInt8.ofNat n) = decide (c.toNat = n) := by
  by_cases hc : c = UInt8.ofNat n
  · subst hc
    rw [decide_eq_true (by rw [UInt8.toNat_ofNat']; omega)]
    simp
  · rw [decide_eq_false (fun hh => hc (by rw [← hh]; simp)), beq_eq_false_iff_ne]
    exact hc

theorem runLen_drop (p : UInt8 → Bool) (s : List UInt8) (k : Nat) (h : k < s.length) : runLen p (s.drop k) = if p (s[k]?.getD 0) then runLen p (s.drop (k + 1)) + 1 else 0 := by
  rw [List.drop_eq_getElem_cons h, runLen, List.getElem?_eq_getElem h]; rfl

end Go.Proofs.YteenfcmnmenigaaGreatDoor

namespace Go.Proofs.YteenfcmnmenigaaGreatDoor
open Go.RowKit Go.Lib

def tokVals (t : Tok) (rv : Value) : List Value := [.int .i64 t.kind, .string ⟨t.text.toArray⟩, .string ⟨t.num.toArray⟩, .string ⟨t.den.toArray⟩, rv, .int .i64 t.line, .int .i64 t.col]
def flat : List Tok → List Value → List Value
  | t :: l, rv :: r => tokVals t rv ++ flat l r
  | _, _ => []
theorem flat_len : ∀ (l : List Tok) (r : List Value), r.length = l.length → (flat l r).length = l.length * 7
  | [], [], _ => rfl
  | [], _ :: _, h => by simp at h
  | _ :: _, [], h => by simp at h
  | t :: l, rv :: r, h => by
    rw [flat, List.length_append, flat_len l r (by simpa using h), List.length_cons]
    show 7 + l.length * 7 = _
    omega
theorem flat_append : ∀ (l : List Tok) (r : List Value) (t : Tok) (rv : Value), r.length = l.length → flat (l ++ [t]) (r ++ [rv]) = flat l r ++ tokVals t rv
  | [], [], t, rv, _ => by simp [flat]
  | [], _ :: _, _, _, h => by simp at h
  | _ :: _, [], _, _, h => by simp at h
  | a :: l, b :: r, t, rv, h => by
    rw [List.cons_append, List.cons_append, flat, flat, flat_append l r t rv (by simpa using h), List.append_assoc]
theorem flat_get : ∀ (l : List Tok) (r : List Value) (k : Nat) (t : Tok) (rv : Value) (j : Nat), r.length = l.length → l[k]? = some t → r[k]? = some rv → j < 7 → (flat l r)[k * 7 + j]? = (tokVals t rv)[j]?
  | [], _, k, t, rv, j, _, h, _, _ => by simp at h
  | _ :: _, [], k, t, rv, j, h, _, _, _ => by simp at h
  | a :: l, b :: r, 0, t, rv, j, _, h1, h2, hj => by
    simp at h1 h2
    subst h1 h2
    rw [flat, Nat.zero_mul, Nat.zero_add, List.getElem?_append_left (by show j < 7; exact hj)]
  | a :: l, b :: r, k + 1, t, rv, j, h, h1, h2, hj => by
    rw [flat, List.getElem?_append_right (by show 7 ≤ _; omega), show (k + 1) * 7 + j - (tokVals a b).length = k * 7 + j by show (k + 1) * 7 + j - 7 = _; omega]
    exact flat_get l r k t rv j (by simpa using h) (by simpa using h1) (by simpa using h2) hj
theorem flat_one : ∀ (l : List Tok) (r : List Value), (∀ v ∈ r, v.oneCell' = true) → ∀ u ∈ flat l r, u.oneCell' = true
  | [], _, _, u, h => by simp [flat] at h
  | _ :: _, [], _, u, h => by simp [flat] at h
  | a :: l, b :: r, hr, u, h => by
    rw [flat] at h
    rcases List.mem_append.1 h with h | h
    · unfold tokVals at h
      simp only [List.mem_cons, List.not_mem_nil, or_false] at h
      rcases h with rfl | rfl | rfl | rfl | rfl | rfl | rfl
      all_goals first | rfl | exact hr _ (by simp)
    · exact flat_one l r (fun v hv => hr v (by simp [hv])) u h

/-- A slice of tokens. -/
def IsToks (w : World) (B : Nat) (v : Value) (l : List Tok) : Prop := ∃ A c rvs, v = .slice A l.length c ∧ l.length ≤ c ∧ c ≤ maxLen ∧ rvs.length = l.length ∧ Row w B 7 A l.length (flat l rvs) ∧ ∀ (k : Nat) t rv, l[k]? = some t → rvs[k]? = some rv → IsRow w B rv t.row
theorem IsToks.keep {w w' : World} {B : Nat} {v : Value} {l : List Tok} (h : IsToks w B v l) (hb : Below B w w') : IsToks w' B v l := by
  obtain ⟨A, c, rvs, rfl, h1, h2, h3, h4, h5⟩ := h
  exact ⟨A, c, rvs, rfl, h1, h2, h3, h4.below hb (Nat.le_refl _), fun k t rv a b => (h5 k t rv a b).keep hb⟩
theorem IsToks.up {w : World} {B B' : Nat} {v : Value} {l : List Tok} (h : IsToks w B v l) (hB : B ≤ B') : IsToks w B' v l := by
  obtain ⟨A, c, rvs, rfl, h1, h2, h3, h4, h5⟩ := h
  exact ⟨A, c, rvs, rfl, h1, h2, h3, h4.up hB, fun k t rv a b => (h5 k t rv a b).up hB⟩
theorem IsToks.lift {w w' : World} {v : Value} {l : List Tok} (h : IsToks w w.heap.size v l) (hb : Below w.heap.size w w') : IsToks w' w'.heap.size v l := (h.keep hb).up hb.size

end Go.Proofs.YteenfcmnmenigaaGreatDoor

namespace Go.Proofs.YteenfcmnmenigaaGreatDoor
open Go.RowKit Go.Lib

/-- The cells of a result that lies in memory. -/
theorem cells_below {w w' : World} {cs : Array Value} {t : TypeId} (hb : Below (w.heap.size + 1) (w.alloc (.cells cs t)) w') (k : Nat) : w'.cell? ⟨w.heap.size, k, Option.none⟩ = cs[k]? ∧ w'.frozen? ⟨w.heap.size, k, Option.none⟩ = false := by
  refine ⟨?_, ?_⟩
  · rw [hb.cell (p := ⟨w.heap.size, k, Option.none⟩) (by simp), World.cell?_alloc_new]
  · rw [hb.frozen (p := ⟨w.heap.size, k, Option.none⟩) (by simp), World.frozen?_alloc_new]
theorem size_below {w w' : World} {o : Obj} (hb : Below (w.heap.size + 1) (w.alloc o) w') : w.heap.size < w'.heap.size := by have := hb.size; simp at this; omega

/-- The zero token. -/
def zeroTok : Array Value := #[.int .i64 0, .string ⟨#[]⟩, .string ⟨#[]⟩, .string ⟨#[]⟩, .slice Option.none 0 0, .int .i64 0, .int .i64 0]
theorem tok_below {w w' : World} {a0 a1 a2 a3 a4 a5 a6 : Value} {t : TypeId} (hb : Below (w.heap.size + 1) (w.alloc (.cells #[a0, a1, a2, a3, a4, a5, a6] t)) w') :
    (w'.cell? ⟨w.heap.size, 0, Option.none⟩ = some a0 ∧ w'.cell? ⟨w.heap.size, 1, Option.none⟩ = some a1 ∧ w'.cell? ⟨w.heap.size, 2, Option.none⟩ = some a2 ∧ w'.cell? ⟨w.heap.size, 3, Option.none⟩ = some a3 ∧ w'.cell? ⟨w.heap.size, 4, Option.none⟩ = some a4 ∧ w'.cell? ⟨w.heap.size, 5, Option.none⟩ = some a5 ∧ w'.cell? ⟨w.heap.size, 6, Option.none⟩ = some a6) ∧
    (w'.frozen? ⟨w.heap.size, 0, Option.none⟩ = false ∧ w'.frozen? ⟨w.heap.size, 1, Option.none⟩ = false ∧ w'.frozen? ⟨w.heap.size, 2, Option.none⟩ = false ∧ w'.frozen? ⟨w.heap.size, 3, Option.none⟩ = false ∧ w'.frozen? ⟨w.heap.size, 4, Option.none⟩ = false ∧ w'.frozen? ⟨w.heap.size, 5, Option.none⟩ = false ∧ w'.frozen? ⟨w.heap.size, 6, Option.none⟩ = false) ∧ w.heap.size < w'.heap.size :=
  ⟨⟨(cells_below hb 0).1, (cells_below hb 1).1, (cells_below hb 2).1, (cells_below hb 3).1, (cells_below hb 4).1, (cells_below hb 5).1, (cells_below hb 6).1⟩, ⟨(cells_below hb 0).2, (cells_below hb 1).2, (cells_below hb 2).2, (cells_below hb 3).2, (cells_below hb 4).2, (cells_below hb 5).2, (cells_below hb 6).2⟩, size_below hb⟩

theorem below7 {w w2 : World} (h : Below w.heap.size w w2) (a0 a1 a2 a3 a4 a5 a6 : Value) :
    Below w.heap.size w (((((((w2.setCell ⟨w.heap.size, 0, Option.none⟩ a0).setCell ⟨w.heap.size, 1, Option.none⟩ a1).setCell ⟨w.heap.size, 2, Option.none⟩ a2).setCell ⟨w.heap.size, 3, Option.none⟩ a3).setCell ⟨w.heap.size, 4, Option.none⟩ a4).setCell ⟨w.heap.size, 5, Option.none⟩ a5).setCell ⟨w.heap.size, 6, Option.none⟩ a6) :=
  ((((((h.setCell (Nat.le_refl _) _).setCell (Nat.le_refl _) _).setCell (Nat.le_refl _) _).setCell (Nat.le_refl _) _).setCell (Nat.le_refl _) _).setCell (Nat.le_refl _) _).setCell (Nat.le_refl _) _

/-- A token as a value, without its place. -/
def tokAgg (kd : Int) (t n d : List UInt8) (rv : Value) : Value := .agg #[.int .i64 kd, .string ⟨t.toArray⟩, .string ⟨n.toArray⟩, .string ⟨d.toArray⟩, rv, .int .i64 0, .int .i64 0]
def tok0 : Value := tokAgg 0 [] [] [] (.slice Option.none 0 0)

/-- What a reader of a token returns, with its length ('next', 'number') or without ('word', 'bracket'). -/
def NextPost (w' : World) : Nrd → Ending → Prop
  | .bad er, e => e = .returned (.tuple #[tok0, .int .i64 0, .int .i64 er])
  | .good kd t n d x m, e => ∃ rv, e = .returned (.tuple #[tokAgg kd t n d rv, .int .i64 m, .int .i64 0]) ∧ TRow w' rv x
def TokPost (w' : World) : Nrd → Ending → Prop
  | .bad er, e => e = .returned (.tuple #[tok0, .int .i64 er])
  | .good kd t n d x _, e => ∃ rv, e = .returned (.tuple #[tokAgg kd t n d rv, .int .i64 0]) ∧ TRow w' rv x

end Go.Proofs.YteenfcmnmenigaaGreatDoor

namespace Go.Proofs.YteenfcmnmenigaaGreatDoor
open Go.RowKit Go.Lib

theorem fracRead_bad (t : List UInt8) (k e : Int) (h : fracRead t k = .bad e) : e ≠ 0 := by
  unfold fracRead at h
  repeat' split at h
  all_goals first | (injection h with h; omega) | cases h
theorem fracOf_bad {s : List UInt8} {e : Int} (h : fracOf s = .bad e) : e ≠ 0 := by
  unfold fracOf at h
  split at h
  · injection h with h; omega
  · exact fracRead_bad _ _ _ h

theorem fracRead_good {t : List UInt8} {k : Int} {n d : Nat} (h : fracRead t k = .good n d) (hl : t.length ≤ 400) : 0 < d ∧ (decDigits n).length ≤ 400 ∧ (decDigits d).length ≤ 401 := by
  have h1 : (decDigits 1).length = 1 := by rw [dec_small (by omega)]; rfl
  unfold fracRead at h
  split at h
  · split at h
    · rename_i ho
      injection h with h2 h3
      subst h2 h3
      have := dval_len ho
      exact ⟨by omega, by omega, by omega⟩
    · cases h
  · split at h
    · split at h
      · rename_i ho
        rw [Bool.and_eq_true] at ho
        have e1 := dval_len ho.1
        have e2 := dval_len ho.2
        have e3 : (t.take k.toNat).length ≤ 400 := by rw [List.length_take]; omega
        have e4 : (t.drop (k.toNat + 1)).length ≤ 400 := by rw [List.length_drop]; omega
        split at h
        · cases h
        · injection h with h2 h3
          subst h2 h3
          exact ⟨by omega, by omega, by omega⟩
      · cases h
    · split at h
      · rename_i ho
        rw [Bool.and_eq_true] at ho
        injection h with h2 h3
        subst h2 h3
        have e1 := dval_len (okDig_append ho.1 ho.2)
        have e3 : (t.take k.toNat ++ t.drop (k.toNat + 1)).length ≤ 400 := by rw [List.length_append, List.length_take, List.length_drop]; omega
        have e4 : (decDigits (10 ^ (t.length - k.toNat - 1))).length = t.length - k.toNat - 1 + 1 := by rw [dec_pow10]; simp
        exact ⟨Nat.pow_pos (by omega), by omega, by omega⟩
      · cases h
theorem fracOf_good {s : List UInt8} {n d : Nat} (h : fracOf s = .good n d) : 0 < d ∧ (decDigits n).length ≤ 400 ∧ (decDigits d).length ≤ 401 := by
  unfold fracOf at h
  split at h
  · cases h
  · refine fracRead_good h ?_
    have := trimPre_len s [45]
    omega
theorem low_len {n : Int} {d : Int} {k : Nat} (h1 : (decDigits n.natAbs).length ≤ k) (h2 : (decDigits d.natAbs).length ≤ k) : (itoa (lowN n d)).length ≤ k + 1 ∧ (itoa (lowD n d)).length ≤ k + 1 := by
  have a : (lowN n d).natAbs ≤ n.natAbs := by
    unfold lowN
    rw [Int.natAbs_ediv_of_dvd (Int.ofNat_dvd_left.2 (Nat.gcd_dvd_left _ _)), Int.natAbs_natCast]
    exact Nat.div_le_self _ _
  have b : (lowD n d).natAbs ≤ d.natAbs := by
    unfold lowD
    rw [Int.natAbs_ediv_of_dvd (Int.ofNat_dvd_left.2 (Nat.gcd_dvd_right _ _)), Int.natAbs_natCast]
    exact Nat.div_le_self _ _
  have a2 := dec_le_len a
  have b2 := dec_le_len b
  have a3 := itoa_len (lowN n d)
  have b3 := itoa_len (lowD n d)
  omega
theorem numTok_good (b : Bool) (k N D : Nat) : numTok b k (.good N D) = .good 2 (ratText (itoa (lowN (sgnd b N) D)) (itoa (lowD (sgnd b N) D))) (itoa (lowN (sgnd b N) D)) (itoa (lowD (sgnd b N) D)) [] k := rfl
theorem sgnd_abs (b : Bool) (n : Nat) : (sgnd b n).natAbs = n := by unfold sgnd; split <;> omega

end Go.Proofs.YteenfcmnmenigaaGreatDoor

namespace Go.Proofs.YteenfcmnmenigaaGreatDoor
open Go.RowKit Go.Lib

theorem u8_toNat_eq {c : UInt8} {n : Nat} (h : n < 256) : c.toNat = n ↔ c = UInt8.ofNat n := by
  constructor
  · intro e; rw [← e]; simp
  · intro e; rw [e, UInt8.toNat_ofNat']; omega

theorem indexByte_bd : ∀ (l : List UInt8) (c : UInt8), -1 ≤ Lib.indexByte l c ∧ Lib.indexByte l c < l.length
  | [], c => ⟨by rw [Lib.indexByte]; omega, by rw [Lib.indexByte]; simp⟩
  | b :: t, c => by
    have ih := indexByte_bd t c
    rw [Lib.indexByte, List.length_cons]
    split
    · omega
    · split
      · omega
      · omega

theorem innerRead_bad {l : List UInt8} {k : Bool} {e : Int} (h : innerRead l k = .bad e) : e ≠ 0 := by
  unfold innerRead at h
  repeat' split at h
  all_goals first | (injection h with h; omega) | cases h
theorem rowRead_bad {s : List UInt8} {e : Int} (h : rowRead s = .bad e) : e ≠ 0 := by
  unfold rowRead endRead at h
  repeat' split at h
  all_goals first | exact innerRead_bad h | (injection h with h; omega) | cases h

/-- The block of a result, in a later world. -/
theorem block_below {w w' : World} {o : Obj} (hb : Below (w.heap.size + 1) (w.alloc o) w') : w'.heap[w.heap.size]? = some o := (hb.block _ (by omega)).trans (heap_alloc_new _ _)
theorem TRow.store7 {w w2 : World} {v : Value} {x : List Int} {cs : Array Value} {T : TypeId} {p : Nat × Nat} (h : TRow w2 v x) (hg : w2.heap[w.heap.size]? = some (Obj.cells cs T p)) (hT : T ≠ 3) (a0 a1 a2 a3 a4 a5 a6 : Value) :
    TRow (((((((w2.setCell ⟨w.heap.size, 0, Option.none⟩ a0).setCell ⟨w.heap.size, 1, Option.none⟩ a1).setCell ⟨w.heap.size, 2, Option.none⟩ a2).setCell ⟨w.heap.size, 3, Option.none⟩ a3).setCell ⟨w.heap.size, 4, Option.none⟩ a4).setCell ⟨w.heap.size, 5, Option.none⟩ a5).setCell ⟨w.heap.size, 6, Option.none⟩ a6) v x := by
  refine h.keep fun g cur q hc => ?_
  have hne : g ≠ w.heap.size := fun e => by
    subst e
    rw [hg] at hc
    injection hc with hc
    injection hc with _ hc _
    exact hT hc
  rw [Below.heap_setCell _ _ _ _ hne, Below.heap_setCell _ _ _ _ hne, Below.heap_setCell _ _ _ _ hne, Below.heap_setCell _ _ _ _ hne, Below.heap_setCell _ _ _ _ hne, Below.heap_setCell _ _ _ _ hne, Below.heap_setCell _ _ _ _ hne]

end Go.Proofs.YteenfcmnmenigaaGreatDoor

namespace Go.Proofs.YteenfcmnmenigaaGreatDoor
open Go.RowKit Go.Lib

theorem part_at {t : List UInt8} {j : Nat} (h : j < t.length) : t = t.take j ++ (t[j]?.getD 0) :: t.drop (j + 1) := by
  rw [List.getElem?_eq_getElem h, Option.getD_some, ← List.drop_eq_getElem_cons h, List.take_append_drop]

theorem indexAny_place : ∀ (t : List UInt8), Lib.indexAny t [47, 46] = -1 ∨ ∃ j : Nat, Lib.indexAny t [47, 46] = j ∧ j < t.length ∧ (t[j]?.getD 0 = 47 ∨ t[j]?.getD 0 = 46)
  | [] => .inl rfl
  | c :: t => by
    rw [Lib.indexAny]
    cases hc : ([47, 46] : List UInt8).contains c with
    | true =>
      rw [if_pos rfl]
      refine .inr ⟨0, rfl, by simp, ?_⟩
      rw [List.contains_iff_mem] at hc
      simpa using hc
    | false =>
      rw [if_neg (by decide)]
      rcases indexAny_place t with h | ⟨j, h, hj, hx⟩
      · rw [h]; exact .inl rfl
      · rw [h, if_neg (by rw [beq_iff_eq]; omega)]
        exact .inr ⟨j + 1, by omega, by simp; omega, by simpa using hx⟩

end Go.Proofs.YteenfcmnmenigaaGreatDoor

namespace Go.Proofs.YteenfcmnmenigaaGreatDoor
open Go.RowKit Go.Lib

theorem tokPost_bad {w' : World} {er : Int} {e : Ending} (h : TokPost w' (.bad er) e) : e = .returned (.tuple #[.agg #[.int .i64 0, .string ⟨#[]⟩, .string ⟨#[]⟩, .string ⟨#[]⟩, .slice Option.none 0 0, .int .i64 0, .int .i64 0], .int .i64 er]) := h
theorem tokPost_good {w' : World} {kd : Int} {t n d : List UInt8} {x : List Int} {m : Nat} {e : Ending} (h : TokPost w' (.good kd t n d x m) e) : ∃ A c, e = .returned (.tuple #[.agg #[.int .i64 kd, .string ⟨t.toArray⟩, .string ⟨n.toArray⟩, .string ⟨d.toArray⟩, .slice A x.length c, .int .i64 0, .int .i64 0], .int .i64 0]) ∧ TRow w' (.slice A x.length c) x := by
  obtain ⟨rv, he, ht⟩ := h
  have ht' := ht
  obtain ⟨A, c, rfl, _⟩ := ht'
  exact ⟨A, c, he, ht⟩
theorem nextPost_bad {w' : World} {er : Int} {e : Ending} (h : NextPost w' (.bad er) e) : e = .returned (.tuple #[.agg #[.int .i64 0, .string ⟨#[]⟩, .string ⟨#[]⟩, .string ⟨#[]⟩, .slice Option.none 0 0, .int .i64 0, .int .i64 0], .int .i64 0, .int .i64 er]) := h
theorem nextPost_good {w' : World} {kd : Int} {t n d : List UInt8} {x : List Int} {m : Nat} {e : Ending} (h : NextPost w' (.good kd t n d x m) e) : ∃ A c, e = .returned (.tuple #[.agg #[.int .i64 kd, .string ⟨t.toArray⟩, .string ⟨n.toArray⟩, .string ⟨d.toArray⟩, .slice A x.length c, .int .i64 0, .int .i64 0], .int .i64 m, .int .i64 0]) ∧ TRow w' (.slice A x.length c) x := by
  obtain ⟨rv, he, ht⟩ := h
  have ht' := ht
  obtain ⟨A, c, rfl, _⟩ := ht'
  exact ⟨A, c, he, ht⟩
theorem Cells.store7 {w2 : World} {g : Nat} {T : TypeId} {xs : List Value} (h : Cells w2 g T xs) (a0 a1 a2 a3 a4 a5 a6 : Value) :
    Cells (((((((w2.setCell ⟨g, 0, Option.none⟩ a0).setCell ⟨g, 1, Option.none⟩ a1).setCell ⟨g, 2, Option.none⟩ a2).setCell ⟨g, 3, Option.none⟩ a3).setCell ⟨g, 4, Option.none⟩ a4).setCell ⟨g, 5, Option.none⟩ a5).setCell ⟨g, 6, Option.none⟩ a6) g T (((((((xs.set 0 a0).set 1 a1).set 2 a2).set 3 a3).set 4 a4).set 5 a5).set 6 a6) :=
  ((((((h.set 0 a0).set 1 a1).set 2 a2).set 3 a3).set 4 a4).set 5 a5).set 6 a6

end Go.Proofs.YteenfcmnmenigaaGreatDoor
