/- The lexer in plain words: what is read at the beginning of a text, in a line, in a text. Tokens in memory. lexer: the classes of bytes, and length. lexer: word, number, bracket. lexer.number. lexer.bracket and lexer.next. fraction.Parse of any text: the whole contract. lexer.next. lexer.next: marks, and what is no token; the whole contract. lexer.content; plain facts for the walk of Scan. lexer.Scan. -/
import Derived.Test.YtjgpjhaeoiddbaaGreatDoorGJ
import Derived.Test.YtjgpjhaeoiddbaaGreatDoorGK
import Derived.Test.YtjgpjhaeoiddbaaGreatDoorGE
import Derived.Deep.RegionHeld3
namespace Go.Proofs.YtjgpjhaeoiddbaaGreatDoor
open Go.RowKit Go.Lib

/-- A token. -/
structure Tok where
  kind : Int
  text : List UInt8
  num : List UInt8
  den : List UInt8
  row : List Int
  line : Int
  col : Int

def letB (c : UInt8) : Bool := decide (97 ≤ (c ||| 32).toNat) && decide ((c ||| 32).toNat ≤ 122)
def partB (c : UInt8) : Bool := letB c || digB c || c == 95 || c == 35 || c == 39
def numB (c : UInt8) : Bool := digB c || c == 46 || c == 47
/-- How many bytes at the beginning are of a class. -/
def runLen (p : UInt8 → Bool) : List UInt8 → Nat
  | [] => 0
  | c :: t => if p c then runLen p t + 1 else 0
theorem runLen_le (p : UInt8 → Bool) : ∀ l, runLen p l ≤ l.length
  | [] => Nat.le_refl _
  | c :: t => by
    rw [runLen]
    split
    · have := runLen_le p t; simp; omega
    · exact Nat.zero_le _

/-- What fraction.Parse reads, as texts. -/
def fracIdx (s : List UInt8) : Int := Lib.indexAny (Lib.trimPrefix s [45]) [47, 46]
def fracOf (s : List UInt8) : Frd := if 400 < s.length then .bad 16 else fracRead (Lib.trimPrefix s [45]) (fracIdx s)
def isNeg (s : List UInt8) : Bool := if 400 < s.length then false else Lib.hasPrefix s [45]

/-- What is read at the beginning of a text: an error, or a token without its place, and how many bytes it has. -/
inductive Nrd where
  | bad (e : Int)
  | good (kind : Int) (text num den : List UInt8) (row : List Int) (n : Nat)

def wordRead (s : List UInt8) : Nrd := if 32 < runLen partB s then .bad 8 else .good 1 (s.take (runLen partB s)) [] [] [] (runLen partB s)
def numLen (s : List UInt8) : Nat := 1 + runLen numB (s.drop 1)
def numTok (b : Bool) (k : Nat) : Frd → Nrd
  | .bad _ => .bad 2
  | .good n d => .good 2 (ratText (itoa (lowN (sgnd b n) d)) (itoa (lowD (sgnd b n) d))) (itoa (lowN (sgnd b n) d)) (itoa (lowD (sgnd b n) d)) [] k
def numRead (s : List UInt8) : Nrd := numTok (isNeg (s.take (numLen s))) (numLen s) (fracOf (s.take (numLen s)))
def brackEnd (s : List UInt8) : UInt8 := if s[0]?.getD 0 = 60 then 93 else 62
def brackKind (s : List UInt8) : Int := if s[0]?.getD 0 = 60 then 4 else 3
def brackTok (kind : Int) (t : List UInt8) : Rrd → Nrd
  | .bad e => .bad e
  | .good x _ => .good kind t [] [] x t.length
def brackLen (s : List UInt8) : Nat := (Lib.indexByte s (brackEnd s) + 1).toNat
def brackRead (s : List UInt8) : Nrd := if brackLen s = 0 then .bad 15 else brackTok (brackKind s) (s.take (brackLen s)) (rowRead (s.take (brackLen s)))
def marks : List UInt8 := [40, 41, 123, 125, 58, 44, 61, 124, 64, 126, 42, 43]
def nextRead (s : List UInt8) : Nrd :=
  if letB (s[0]?.getD 0) then wordRead s
  else if digB (s[0]?.getD 0) || (s[0]?.getD 0 == 45 && (decide (1 < s.length) && digB (s[1]?.getD 0))) then numRead s
  else if s[0]?.getD 0 = 91 ∨ s[0]?.getD 0 = 60 then brackRead s
  else if 0 ≤ Lib.indexByte marks (s[0]?.getD 0) then .good 5 (s.take 1) [] [] [] 1
  else .bad 15

def blankB (c : UInt8) : Bool := c == 32 || c == 9 || c == 13
/-- What is read in a line: an error at a column, or the tokens so far. -/
inductive Lrd where
  | bad (col e : Int)
  | good (l : List Tok)
def lineStep (i : Nat) (k : Nat) (acc : List Tok) : Nrd → (List Tok → Nat → Lrd) → Lrd
  | .bad e, _ => .bad (k + 1) e
  | .good kd t n d x m, go => if acc.length = 4000 then .bad (k + 1) 4 else go (acc ++ [⟨kd, t, n, d, x, i + 1, k + 1⟩]) (k + m)
def lineRead (i : Nat) (line : List UInt8) : Nat → Nat → List Tok → Lrd
  | 0, _, acc => .good acc
  | g + 1, k, acc =>
    if k < line.length then
      (if blankB (line[k]?.getD 0) then lineRead i line g (k + 1) acc
       else lineStep i k acc (nextRead (line.drop k)) fun a m => lineRead i line g m a)
    else .good acc

/-- What is read in a text: an error at a place, or the tokens. -/
inductive Srd where
  | bad (line col e : Int)
  | good (l : List Tok)
def cutSemi (s : List UInt8) : List UInt8 := s.takeWhile (fun c => c != 59)
def endTok (i : Nat) (full : List UInt8) : Tok := ⟨6, [10], [], [], [], i + 1, full.length + 1⟩
def linesRead : Nat → List (List UInt8) → List Tok → Srd
  | _, [], acc => .good acc
  | i, full :: rest, acc =>
    match lineRead i (cutSemi full) (full.length + 1) 0 acc with
    | .bad c e => .bad (i + 1) c e
    | .good l =>
      if l.length = acc.length then linesRead (i + 1) rest l
      else if l.length = 4000 then .bad (i + 1) (full.length + 1) 4
      else linesRead (i + 1) rest (l ++ [endTok i full])
def scanRead (s : List UInt8) : Srd := if 65536 < s.length then .bad 1 1 16 else linesRead 0 (cutAll 10 s) []

end Go.Proofs.YtjgpjhaeoiddbaaGreatDoor

namespace Go.Proofs.YtjgpjhaeoiddbaaGreatDoor
open Go.RowKit Go.Lib

def tokVals (t : Tok) (rv : Value) : List Value := [.int .i64 t.kind, .string ⟨t.text.toArray⟩, .string ⟨t.num.toArray⟩, .string ⟨t.den.toArray⟩, rv, .int .i64 t.line, .int .i64 t.col]
def flat : List Tok → List Value → List Value
  | t :: l, rv :: r => tokVals t rv ++ flat l r
  | _, _ => []
theorem flat_len : ∀ (l : List Tok) (r : List Value), r.length = l.length → (flat l r).length = l.length * 7
  | [], [], _ => rfl
  | [], _ :: _, h => by simp at h
  | _ :: _, [], h => by simp at h
  | t :: l, rv :: r, h => by
    rw [flat, List.length_append, flat_len l r (by simpa using h), List.length_cons]
    show 7 + l.length * 7 = _
    omega
theorem flat_append : ∀ (l : List Tok) (r : List Value) (t : Tok) (rv : Value), r.length = l.length → flat (l ++ [t]) (r ++ [rv]) = flat l r ++ tokVals t rv
  | [], [], t, rv, _ => by simp [flat]
  | [], _ :: _, _, _, h => by simp at h
  | _ :: _, [], _, _, h => by simp at h
  | a :: l, b :: r, t, rv, h => by
    rw [List.cons_append, List.cons_append, flat, flat, flat_append l r t rv (by simpa using h), List.append_assoc]
theorem flat_get : ∀ (l : List Tok) (r : List Value) (k : Nat) (t : Tok) (rv : Value) (j : Nat), r.length = l.length → l[k]? = some t → r[k]? = some rv → j < 7 → (flat l r)[k * 7 + j]? = (tokVals t rv)[j]?
  | [], _, k, t, rv, j, _, h, _, _ => by simp at h
  | _ :: _, [], k, t, rv, j, h, _, _, _ => by simp at h
  | a :: l, b :: r, 0, t, rv, j, _, h1, h2, hj => by
    simp at h1 h2
    subst h1 h2
    rw [flat, Nat.zero_mul, Nat.zero_add, List.getElem?_append_left (by show j < 7; exact hj)]
  | a :: l, b :: r, k + 1, t, rv, j, h, h1, h2, hj => by
    rw [flat, List.getElem?_append_right (by show 7 ≤ _; omega), show (k + 1) * 7 + j - (tokVals a b).length = k * 7 + j by show (k + 1) * 7 + j - 7 = _; omega]
    exact flat_get l r k t rv j (by simpa using h) (by simpa using h1) (by simpa using h2) hj
theorem flat_one : ∀ (l : List Tok) (r : List Value), (∀ v ∈ r, v.oneCell' = true) → ∀ u ∈ flat l r, u.oneCell' = true
  | [], _, _, u, h => by simp [flat] at h
  | _ :: _, [], _, u, h => by simp [flat] at h
  | a :: l, b :: r, hr, u, h => by
    rw [flat] at h
    rcases List.mem_append.1 h with h | h
    · unfold tokVals at h
      simp only [List.mem_cons, List.not_mem_nil, or_false] at h
      rcases h with rfl | rfl | rfl | rfl | rfl | rfl | rfl
      all_goals first | rfl | exact hr _ (by simp)
    · exact flat_one l r (fun v hv => hr v (by simp [hv])) u h

/-- A slice of tokens. -/
def IsToks (w : World) (B : Nat) (v : Value) (l : List Tok) : Prop := ∃ A c rvs, v = .slice A l.length c ∧ l.length ≤ c ∧ c ≤ maxLen ∧ rvs.length = l.length ∧ Row w B 7 A l.length (flat l rvs) ∧ ∀ (k : Nat) t rv, l[k]? = some t → rvs[k]? = some rv → IsRow w B rv t.row
theorem IsToks.keep {w w' : World} {B : Nat} {v : Value} {l : List Tok} (h : IsToks w B v l) (hb : Below B w w') : IsToks w' B v l := by
  obtain ⟨A, c, rvs, rfl, h1, h2, h3, h4, h5⟩ := h
  exact ⟨A, c, rvs, rfl, h1, h2, h3, h4.below hb (Nat.le_refl _), fun k t rv a b => (h5 k t rv a b).keep hb⟩
theorem IsToks.up {w : World} {B B' : Nat} {v : Value} {l : List Tok} (h : IsToks w B v l) (hB : B ≤ B') : IsToks w B' v l := by
  obtain ⟨A, c, rvs, rfl, h1, h2, h3, h4, h5⟩ := h
  exact ⟨A, c, rvs, rfl, h1, h2, h3, h4.up hB, fun k t rv a b => (h5 k t rv a b).up hB⟩
theorem IsToks.lift {w w' : World} {v : Value} {l : List Tok} (h : IsToks w w.heap.size v l) (hb : Below w.heap.size w w') : IsToks w' w'.heap.size v l := (h.keep hb).up hb.size

/-- A growing slice of tokens. -/
def Toks (w : World) (base : Nat) (v : Value) (l : List Tok) : Prop := ∃ rvs : List Value, rvs.length = l.length ∧ w.ownsRow base 38 7 v l.length (flat l rvs) ∧ ∀ (k : Nat) t rv, l[k]? = some t → rvs[k]? = some rv → TRow w rv t.row
theorem Toks.nil (w : World) (base : Nat) : Toks w base (.slice Option.none 0 0) [] := ⟨[], rfl, World.ownsRow_nil _ _ _ _, fun k t rv h => by simp at h⟩
theorem Toks.below {w w' : World} {base : Nat} {v : Value} {l : List Tok} (h : Toks w base v l) (hb : Below w.heap.size w w') : Toks w' base v l := by
  obtain ⟨rvs, h1, h2, h3⟩ := h
  exact ⟨rvs, h1, own_below h2 hb, fun k t rv a b => (h3 k t rv a b).below hb⟩
theorem Toks.isToks {w : World} {base : Nat} {v : Value} {l : List Tok} (h : Toks w base v l) : IsToks w w.heap.size v l := by
  obtain ⟨rvs, h1, h2, h3⟩ := h
  obtain ⟨A, c, rfl, h4, h5, h6⟩ := Row.of_own h2
  exact ⟨A, c, rvs, rfl, h4, h5, h1, h6, fun k t rv a b => (h3 k t rv a b).isRow⟩
theorem Toks.push {w w' : World} {base : Nat} {v v' : Value} {l : List Tok} {t : Tok} {rv : Value} {rvs : List Value} (h1 : rvs.length = l.length) (h2 : w.ownsRow base 38 7 v l.length (flat l rvs)) (h3 : ∀ (k : Nat) t rv, l[k]? = some t → rvs[k]? = some rv → TRow w rv t.row) (ht : TRow w rv t.row)
    (ho : w'.ownsRow base 38 7 v' (l.length + 1) (flat l rvs ++ tokVals t rv)) (hg : w.grownBy w' v.ownBlock) : Toks w' base v' (l ++ [t]) := by
  refine ⟨rvs ++ [rv], by simp [h1], ?_, ?_⟩
  · rw [flat_append l rvs t rv h1, List.length_append]; exact ho
  · intro k u uv a b
    rcases Nat.lt_trichotomy k l.length with hk | hk | hk
    · rw [List.getElem?_append_left hk] at a
      rw [List.getElem?_append_left (by omega)] at b
      exact (h3 k u uv a b).grown h2 hg (by decide)
    · subst hk
      rw [List.getElem?_append_right (Nat.le_refl _), Nat.sub_self] at a
      rw [List.getElem?_append_right (by omega), h1, Nat.sub_self] at b
      simp at a b
      subst a b
      exact ht.grown h2 hg (by decide)
    · rw [List.getElem?_append_right (by omega)] at a
      rw [List.getElem?_eq_none (by simp; omega)] at a
      cases a

end Go.Proofs.YtjgpjhaeoiddbaaGreatDoor

namespace Go.Proofs.YtjgpjhaeoiddbaaGreatDoor
open Go.RowKit Go.Lib

theorem or32 (c : UInt8) : (c ||| 32).toNat = c.toNat ||| 32 := by rw [UInt8.toNat_or]; rfl

set_option maxRecDepth 100000 in
theorem bits_or32 : ∀ n : Nat, n < 256 → bits BinOp.or IntKind.u8 (n : Int) 32 = ((n ||| 32 : Nat) : Int) := by
  intro n hn
  have h : ∀ m : Fin 256, bits BinOp.or IntKind.u8 ((m.val : Nat) : Int) 32 = ((m.val ||| 32 : Nat) : Int) := by decide
  exact h ⟨n, hn⟩

theorem letter_any (c : UInt8) (w : World) : Calls Tryz.prog 133 #[.int .u8 c.toNat] w fun e w' => e = .returned (.bool (letB c)) ∧ w = w' := by
  have HE : Box (letB c = (decide (97 ≤ c.toNat ||| 32) && decide (c.toNat ||| 32 ≤ 122))) := ⟨by unfold letB; rw [or32]⟩
  have hb : c.toNat ||| 32 < 256 := by rw [← or32]; exact UInt8.toNat_lt _
  have hbits := bits_or32 c.toNat (UInt8.toNat_lt c)
  generalize c.toNat ||| 32 = m at *
  generalize letB c = out at *
  by_cases h1 : 97 ≤ m
  · by_cases h2 : m ≤ 122
    · go_enter Tryz.func133, Tryz.ntmps133
      go_wp2
      go_ret
      exact ⟨ret1 (congrArg Value.bool (by first | (rw [HE.out]; simp [h1, h2]; done) | (rw [HE.out]; simp [h1, h2]; omega) | (rw [HE.out, decide_eq_true h1, Bool.true_and]; exact decide_eq_decide.2 (by omega)))), rfl⟩
    · go_enter Tryz.func133, Tryz.ntmps133
      go_wp2
      go_ret
      exact ⟨ret1 (congrArg Value.bool (by first | (rw [HE.out]; simp [h1, h2]; done) | (rw [HE.out]; simp [h1, h2]; omega) | (rw [HE.out, decide_eq_true h1, Bool.true_and]; exact decide_eq_decide.2 (by omega)))), rfl⟩
  · go_enter Tryz.func133, Tryz.ntmps133
    go_wp2
    go_ret
    exact ⟨ret1 (congrArg Value.bool (by rw [HE.out]; simp [h1])), rfl⟩

theorem digit_any (c : UInt8) (w : World) : Calls Tryz.prog 135 #[.int .u8 c.toNat] w fun e w' => e = .returned (.bool (digB c)) ∧ w = w' := by
  have HE : Box (digB c = (decide (48 ≤ c.toNat) && decide (c.toNat ≤ 57))) := ⟨by unfold digB; simp⟩
  generalize digB c = out at *
  by_cases h1 : 48 ≤ c.toNat
  · by_cases h2 : c.toNat ≤ 57
    · go_enter Tryz.func135, Tryz.ntmps135
      go_wp2
      go_ret
      exact ⟨ret1 (congrArg Value.bool (by first | (rw [HE.out]; simp [h1, h2]; done) | (rw [HE.out]; simp [h1, h2]; omega) | (rw [HE.out, decide_eq_true h1, Bool.true_and]; exact decide_eq_decide.2 (by omega)))), rfl⟩
    · go_enter Tryz.func135, Tryz.ntmps135
      go_wp2
      go_ret
      exact ⟨ret1 (congrArg Value.bool (by first | (rw [HE.out]; simp [h1, h2]; done) | (rw [HE.out]; simp [h1, h2]; omega) | (rw [HE.out, decide_eq_true h1, Bool.true_and]; exact decide_eq_decide.2 (by omega)))), rfl⟩
  · go_enter Tryz.func135, Tryz.ntmps135
    go_wp2
    go_ret
    exact ⟨ret1 (congrArg Value.bool (by rw [HE.out]; simp [h1])), rfl⟩

theorem u8_beq (c : UInt8) (n : Nat) (h : n < 256) : (c == UInt8.ofNat n) = decide (c.toNat = n) := by
  by_cases hc : c = UInt8.ofNat n
  · subst hc
    rw [decide_eq_true (by rw [UInt8.toNat_ofNat']; omega)]
    simp
  · rw [decide_eq_false (fun hh => hc (by rw [← hh]; simp)), beq_eq_false_iff_ne]
    exact hc

theorem part_any (c : UInt8) (w : World) : Calls Tryz.prog 180 #[.int .u8 c.toNat] w fun e w' => e = .returned (.bool (partB c)) ∧ w = w' := by
  have HE : Box (partB c = (letB c || digB c || decide (c.toNat = 95) || decide (c.toNat = 35) || decide (c.toNat = 39))) := ⟨by
    unfold partB
    rw [show (95 : UInt8) = UInt8.ofNat 95 from rfl, show (35 : UInt8) = UInt8.ofNat 35 from rfl, show (39 : UInt8) = UInt8.ofNat 39 from rfl, u8_beq _ _ (by omega), u8_beq _ _ (by omega), u8_beq _ _ (by omega)]⟩
  have HL := Lib.hid (fun W => letter_any c W)
  have HD := Lib.hid (fun W => digit_any c W)
  generalize partB c = out at *
  cases hl : letB c with
  | true =>
    rw [hl] at HL HE
    go_enter Tryz.func180, Tryz.ntmps180
    go_wp2_with fail
    refine (HL.out _).mono ?_
    rintro e w1 ⟨rfl, rfl⟩
    go_wp2_with fail
    go_ret
    exact ⟨ret1 (congrArg Value.bool (by rw [HE.out]; rfl)), rfl⟩
  | false =>
    rw [hl] at HL HE
    cases hd : digB c with
    | true =>
      rw [hd] at HD HE
      go_enter Tryz.func180, Tryz.ntmps180
      go_wp2_with fail
      refine (HL.out _).mono ?_
      rintro e w1 ⟨rfl, rfl⟩
      go_wp2_with fail
      refine (HD.out _).mono ?_
      rintro e w1 ⟨rfl, rfl⟩
      go_wp2_with fail
      go_ret
      exact ⟨ret1 (congrArg Value.bool (by rw [HE.out]; rfl)), rfl⟩
    | false =>
      rw [hd] at HD HE
      by_cases h1 : c.toNat = 95
      · have e1 : ((c.toNat : Int) == 95) = true := by rw [h1]; rfl
        have H1 : Box (c.toNat = 95) := ⟨h1⟩
        clear h1
        go_enter Tryz.func180, Tryz.ntmps180
        go_wp2_with fail
        refine (HL.out _).mono ?_
        rintro e w1 ⟨rfl, rfl⟩
        go_wp2_with fail
        refine (HD.out _).mono ?_
        rintro e w1 ⟨rfl, rfl⟩
        go_wp2_with fail
        go_ret
        exact ⟨ret1 (congrArg Value.bool (by rw [HE.out]; have hh := H1.out; simp [hh])), rfl⟩
      by_cases h2 : c.toNat = 35
      · have e2 : ((c.toNat : Int) == 35) = true := by rw [h2]; rfl
        have H2 : Box (c.toNat = 35) := ⟨h2⟩
        clear h2
        go_enter Tryz.func180, Tryz.ntmps180
        go_wp2_with fail
        refine (HL.out _).mono ?_
        rintro e w1 ⟨rfl, rfl⟩
        go_wp2_with fail
        refine (HD.out _).mono ?_
        rintro e w1 ⟨rfl, rfl⟩
        go_wp2_with fail
        go_ret
        exact ⟨ret1 (congrArg Value.bool (by rw [HE.out]; have hh := H2.out; simp [hh])), rfl⟩
      by_cases h3 : c.toNat = 39
      · have e3 : ((c.toNat : Int) == 39) = true := by rw [h3]; rfl
        have H3 : Box (c.toNat = 39) := ⟨h3⟩
        clear h3
        go_enter Tryz.func180, Tryz.ntmps180
        go_wp2_with fail
        refine (HL.out _).mono ?_
        rintro e w1 ⟨rfl, rfl⟩
        go_wp2_with fail
        refine (HD.out _).mono ?_
        rintro e w1 ⟨rfl, rfl⟩
        go_wp2_with fail
        go_ret
        exact ⟨ret1 (congrArg Value.bool (by rw [HE.out]; have hh := H3.out; simp [hh])), rfl⟩
      go_enter Tryz.func180, Tryz.ntmps180
      go_wp2_with fail
      refine (HL.out _).mono ?_
      rintro e w1 ⟨rfl, rfl⟩
      go_wp2_with fail
      refine (HD.out _).mono ?_
      rintro e w1 ⟨rfl, rfl⟩
      go_wp2_with fail
      go_ret
      exact ⟨ret1 (congrArg Value.bool (by rw [HE.out]; simp [h1, h2, h3]; omega)), rfl⟩

theorem numc_any (c : UInt8) (w : World) : Calls Tryz.prog 181 #[.int .u8 c.toNat] w fun e w' => e = .returned (.bool (numB c)) ∧ w = w' := by
  have HE : Box (numB c = (digB c || decide (c.toNat = 46) || decide (c.toNat = 47))) := ⟨by
    unfold numB
    rw [show (46 : UInt8) = UInt8.ofNat 46 from rfl, show (47 : UInt8) = UInt8.ofNat 47 from rfl, u8_beq _ _ (by omega), u8_beq _ _ (by omega)]⟩
  have HD := Lib.hid (fun W => digit_any c W)
  generalize numB c = out at *
  cases hd : digB c with
  | true =>
    rw [hd] at HD HE
    go_enter Tryz.func181, Tryz.ntmps181
    go_wp2_with fail
    refine (HD.out _).mono ?_
    rintro e w1 ⟨rfl, rfl⟩
    go_wp2_with fail
    go_ret
    exact ⟨ret1 (congrArg Value.bool (by rw [HE.out]; rfl)), rfl⟩
  | false =>
    rw [hd] at HD HE
    by_cases h1 : c.toNat = 46
    · have e1 : ((c.toNat : Int) == 46) = true := by rw [h1]; rfl
      have H1 : Box (c.toNat = 46) := ⟨h1⟩
      clear h1
      go_enter Tryz.func181, Tryz.ntmps181
      go_wp2_with fail
      refine (HD.out _).mono ?_
      rintro e w1 ⟨rfl, rfl⟩
      go_wp2_with fail
      go_ret
      exact ⟨ret1 (congrArg Value.bool (by rw [HE.out]; have hh := H1.out; simp [hh])), rfl⟩
    by_cases h2 : c.toNat = 47
    · have e2 : ((c.toNat : Int) == 47) = true := by rw [h2]; rfl
      have H2 : Box (c.toNat = 47) := ⟨h2⟩
      clear h2
      go_enter Tryz.func181, Tryz.ntmps181
      go_wp2_with fail
      refine (HD.out _).mono ?_
      rintro e w1 ⟨rfl, rfl⟩
      go_wp2_with fail
      go_ret
      exact ⟨ret1 (congrArg Value.bool (by rw [HE.out]; have hh := H2.out; simp [hh])), rfl⟩
    go_enter Tryz.func181, Tryz.ntmps181
    go_wp2_with fail
    refine (HD.out _).mono ?_
    rintro e w1 ⟨rfl, rfl⟩
    go_wp2_with fail
    go_ret
    exact ⟨ret1 (congrArg Value.bool (by first | (rw [HE.out]; simp [h1, h2]; done) | (rw [HE.out]; simp [h1, h2]; omega))), rfl⟩

theorem runLen_drop (p : UInt8 → Bool) (s : List UInt8) (k : Nat) (h : k < s.length) : runLen p (s.drop k) = if p (s[k]?.getD 0) then runLen p (s.drop (k + 1)) + 1 else 0 := by
  rw [List.drop_eq_getElem_cons h, runLen, List.getElem?_eq_getElem h]; rfl

set_option maxRecDepth 100000 in
set_option maxHeartbeats 1000000 in
theorem length_part (s : List UInt8) (w : World) (hl : s.length ≤ 1000000) :
    Calls Tryz.prog 179 #[.string ⟨s.toArray⟩, .func (.func 180) #[] #[]] w fun e w' => e = .returned (.int .i64 (runLen partB s : Nat)) ∧ w = w' := by
  have HD := Lib.hid (runLen_drop partB s)
  have HE : Box (runLen partB (s.drop s.length) = 0) := ⟨by rw [List.drop_length]; rfl⟩
  have H0 : Box (runLen partB s = 0 + runLen partB (s.drop 0)) := ⟨by rw [List.drop_zero]; omega⟩
  generalize runLen partB s = out at *
  go_enter Tryz.func179, Tryz.ntmps179
  go_wp2_with fail
  go_loop [5, 8] (fun _ i => ∃ k : Nat, k ≤ s.length ∧ i = .int .i64 k ∧ Box (out = k + runLen partB (s.drop k))) (fun _ i => s.length - (intOf i).toNat)
  case atStart => exact ⟨0, Nat.zero_le _, rfl, H0⟩
  case round =>
    obtain ⟨k, hk, rfl, HO⟩ := hrel
    by_cases hlt : k < s.length
    · have hx := ba_at s k
      have HD2 := Lib.hid (HD.out k hlt)
      generalize s[k]?.getD 0 = c at *
      have HC := Lib.hid (fun W => part_any c W)
      cases hp : partB c with
      | false =>
        rw [hp] at HC HD2
        go_wp2_with fail
        refine (HC.out _).mono ?_
        rintro e w1 ⟨rfl, rfl⟩
        go_wp2_with fail
        go_ret
        exact ⟨ret1 (congrArg (Value.int .i64) (by have h1 := HO.out; have h2 := HD2.out; simp at h2; omega)), rfl⟩
      | true =>
        rw [hp] at HC HD2
        go_wp2_with fail
        refine (HC.out _).mono ?_
        rintro e w1 ⟨rfl, rfl⟩
        go_wp2_with fail
        go_round
        case rel => exact ⟨k + 1, by omega, by go_num, ⟨by have h1 := HO.out; have h2 := HD2.out; simp at h2; omega⟩⟩
        case measure => simp [intOf]; omega
    · obtain rfl : k = s.length := by omega
      go_wp2_with fail
      go_ret
      exact ⟨ret1 (congrArg (Value.int .i64) (by have h1 := HO.out; have h2 := HE.out; omega)), rfl⟩

set_option maxRecDepth 100000 in
set_option maxHeartbeats 1000000 in
theorem length_numc (s : List UInt8) (w : World) (hl : s.length ≤ 1000000) :
    Calls Tryz.prog 179 #[.string ⟨s.toArray⟩, .func (.func 181) #[] #[]] w fun e w' => e = .returned (.int .i64 (runLen numB s : Nat)) ∧ w = w' := by
  have HD := Lib.hid (runLen_drop numB s)
  have HE : Box (runLen numB (s.drop s.length) = 0) := ⟨by rw [List.drop_length]; rfl⟩
  have H0 : Box (runLen numB s = 0 + runLen numB (s.drop 0)) := ⟨by rw [List.drop_zero]; omega⟩
  generalize runLen numB s = out at *
  go_enter Tryz.func179, Tryz.ntmps179
  go_wp2_with fail
  go_loop [5, 8] (fun _ i => ∃ k : Nat, k ≤ s.length ∧ i = .int .i64 k ∧ Box (out = k + runLen numB (s.drop k))) (fun _ i => s.length - (intOf i).toNat)
  case atStart => exact ⟨0, Nat.zero_le _, rfl, H0⟩
  case round =>
    obtain ⟨k, hk, rfl, HO⟩ := hrel
    by_cases hlt : k < s.length
    · have hx := ba_at s k
      have HD2 := Lib.hid (HD.out k hlt)
      generalize s[k]?.getD 0 = c at *
      have HC := Lib.hid (fun W => numc_any c W)
      cases hp : numB c with
      | false =>
        rw [hp] at HC HD2
        go_wp2_with fail
        refine (HC.out _).mono ?_
        rintro e w1 ⟨rfl, rfl⟩
        go_wp2_with fail
        go_ret
        exact ⟨ret1 (congrArg (Value.int .i64) (by have h1 := HO.out; have h2 := HD2.out; simp at h2; omega)), rfl⟩
      | true =>
        rw [hp] at HC HD2
        go_wp2_with fail
        refine (HC.out _).mono ?_
        rintro e w1 ⟨rfl, rfl⟩
        go_wp2_with fail
        go_round
        case rel => exact ⟨k + 1, by omega, by go_num, ⟨by have h1 := HO.out; have h2 := HD2.out; simp at h2; omega⟩⟩
        case measure => simp [intOf]; omega
    · obtain rfl : k = s.length := by omega
      go_wp2_with fail
      go_ret
      exact ⟨ret1 (congrArg (Value.int .i64) (by have h1 := HO.out; have h2 := HE.out; omega)), rfl⟩

end Go.Proofs.YtjgpjhaeoiddbaaGreatDoor

namespace Go.Proofs.YtjgpjhaeoiddbaaGreatDoor
open Go.RowKit Go.Lib

/-- The cells of a result that lies in memory. -/
theorem cells_below {w w' : World} {cs : Array Value} {t : TypeId} (hb : Below (w.heap.size + 1) (w.alloc (.cells cs t)) w') (k : Nat) : w'.cell? ⟨w.heap.size, k, Option.none⟩ = cs[k]? ∧ w'.frozen? ⟨w.heap.size, k, Option.none⟩ = false := by
  refine ⟨?_, ?_⟩
  · rw [hb.cell (p := ⟨w.heap.size, k, Option.none⟩) (by simp), World.cell?_alloc_new]
  · rw [hb.frozen (p := ⟨w.heap.size, k, Option.none⟩) (by simp), World.frozen?_alloc_new]
theorem size_below {w w' : World} {o : Obj} (hb : Below (w.heap.size + 1) (w.alloc o) w') : w.heap.size < w'.heap.size := by have := hb.size; simp at this; omega

/-- The zero token. -/
def zeroTok : Array Value := #[.int .i64 0, .string ⟨#[]⟩, .string ⟨#[]⟩, .string ⟨#[]⟩, .slice Option.none 0 0, .int .i64 0, .int .i64 0]
theorem tok_below {w w' : World} {a0 a1 a2 a3 a4 a5 a6 : Value} {t : TypeId} (hb : Below (w.heap.size + 1) (w.alloc (.cells #[a0, a1, a2, a3, a4, a5, a6] t)) w') :
    (w'.cell? ⟨w.heap.size, 0, Option.none⟩ = some a0 ∧ w'.cell? ⟨w.heap.size, 1, Option.none⟩ = some a1 ∧ w'.cell? ⟨w.heap.size, 2, Option.none⟩ = some a2 ∧ w'.cell? ⟨w.heap.size, 3, Option.none⟩ = some a3 ∧ w'.cell? ⟨w.heap.size, 4, Option.none⟩ = some a4 ∧ w'.cell? ⟨w.heap.size, 5, Option.none⟩ = some a5 ∧ w'.cell? ⟨w.heap.size, 6, Option.none⟩ = some a6) ∧
    (w'.frozen? ⟨w.heap.size, 0, Option.none⟩ = false ∧ w'.frozen? ⟨w.heap.size, 1, Option.none⟩ = false ∧ w'.frozen? ⟨w.heap.size, 2, Option.none⟩ = false ∧ w'.frozen? ⟨w.heap.size, 3, Option.none⟩ = false ∧ w'.frozen? ⟨w.heap.size, 4, Option.none⟩ = false ∧ w'.frozen? ⟨w.heap.size, 5, Option.none⟩ = false ∧ w'.frozen? ⟨w.heap.size, 6, Option.none⟩ = false) ∧ w.heap.size < w'.heap.size :=
  ⟨⟨(cells_below hb 0).1, (cells_below hb 1).1, (cells_below hb 2).1, (cells_below hb 3).1, (cells_below hb 4).1, (cells_below hb 5).1, (cells_below hb 6).1⟩, ⟨(cells_below hb 0).2, (cells_below hb 1).2, (cells_below hb 2).2, (cells_below hb 3).2, (cells_below hb 4).2, (cells_below hb 5).2, (cells_below hb 6).2⟩, size_below hb⟩

theorem below7 {w w2 : World} (h : Below w.heap.size w w2) (a0 a1 a2 a3 a4 a5 a6 : Value) :
    Below w.heap.size w (((((((w2.setCell ⟨w.heap.size, 0, Option.none⟩ a0).setCell ⟨w.heap.size, 1, Option.none⟩ a1).setCell ⟨w.heap.size, 2, Option.none⟩ a2).setCell ⟨w.heap.size, 3, Option.none⟩ a3).setCell ⟨w.heap.size, 4, Option.none⟩ a4).setCell ⟨w.heap.size, 5, Option.none⟩ a5).setCell ⟨w.heap.size, 6, Option.none⟩ a6) :=
  ((((((h.setCell (Nat.le_refl _) _).setCell (Nat.le_refl _) _).setCell (Nat.le_refl _) _).setCell (Nat.le_refl _) _).setCell (Nat.le_refl _) _).setCell (Nat.le_refl _) _).setCell (Nat.le_refl _) _

/-- A token as a value, without its place. -/
def tokAgg (kd : Int) (t n d : List UInt8) (rv : Value) : Value := .agg #[.int .i64 kd, .string ⟨t.toArray⟩, .string ⟨n.toArray⟩, .string ⟨d.toArray⟩, rv, .int .i64 0, .int .i64 0]
def tok0 : Value := tokAgg 0 [] [] [] (.slice Option.none 0 0)

/-- What a reader of a token returns, with its length ('next', 'number') or without ('word', 'bracket'). -/
def NextPost (w' : World) : Nrd → Ending → Prop
  | .bad er, e => e = .returned (.tuple #[tok0, .int .i64 0, .int .i64 er])
  | .good kd t n d x m, e => ∃ rv, e = .returned (.tuple #[tokAgg kd t n d rv, .int .i64 m, .int .i64 0]) ∧ TRow w' rv x
def TokPost (w' : World) : Nrd → Ending → Prop
  | .bad er, e => e = .returned (.tuple #[tok0, .int .i64 er])
  | .good kd t n d x _, e => ∃ rv, e = .returned (.tuple #[tokAgg kd t n d rv, .int .i64 0]) ∧ TRow w' rv x

set_option maxRecDepth 100000 in
set_option maxHeartbeats 1000000 in
theorem word_any (s : List UInt8) (w : World) (hl : s.length ≤ 1000000) :
    Calls Tryz.prog 134 #[.string ⟨s.toArray⟩] w fun e w' => TokPost w' (wordRead s) e ∧ Below w.heap.size w w' := by
  have HL := Lib.hid (fun W => length_part s W hl)
  have hle := runLen_le partB s
  unfold wordRead
  generalize runLen partB s = n at *
  have hx : (⟨s.toArray⟩ : ByteArray).extract 0 n = ⟨(s.take n).toArray⟩ := ba_ext (by rw [ext_eq]; simp)
  by_cases h : 32 < n
  · rw [if_pos h]
    go_enter Tryz.func134, Tryz.ntmps134
    go_wp2_with fail
    refine (HL.out _).mono ?_
    rintro e w1 ⟨rfl, rfl⟩
    go_wp2_with fail
    refine bodyPost_ret (v := .tuple #[.agg #[.int .i64 0, .string ⟨#[]⟩, .string ⟨#[]⟩, .string ⟨#[]⟩, .slice Option.none 0 0, .int .i64 0, .int .i64 0], .int .i64 8]) (by simp [results, Tryz.results134, go_sem]) rfl ⟨rfl, ?_⟩
    exact (Below.refl _ _).alloc (Nat.le_refl _) _
  · rw [if_neg h]
    go_enter Tryz.func134, Tryz.ntmps134
    go_wp2_with fail
    refine (HL.out _).mono ?_
    rintro e w1 ⟨rfl, rfl⟩
    go_wp2_with fail
    refine bodyPost_ret (v := .tuple #[.agg #[.int .i64 1, .string ⟨(s.take n).toArray⟩, .string ⟨#[]⟩, .string ⟨#[]⟩, .slice Option.none 0 0, .int .i64 0, .int .i64 0], .int .i64 0]) (by simp [results, Tryz.results134, go_sem]) rfl ⟨⟨_, rfl, TRow.nil _ _ _ (by unfold maxLen; omega)⟩, ?_⟩
    exact (Below.refl _ _).alloc (Nat.le_refl _) _

end Go.Proofs.YtjgpjhaeoiddbaaGreatDoor

namespace Go.Proofs.YtjgpjhaeoiddbaaGreatDoor
open Go.RowKit Go.Lib

theorem fracRead_bad (t : List UInt8) (k e : Int) (h : fracRead t k = .bad e) : e ≠ 0 := by
  unfold fracRead at h
  repeat' split at h
  all_goals first | (injection h with h; omega) | cases h
theorem fracOf_bad {s : List UInt8} {e : Int} (h : fracOf s = .bad e) : e ≠ 0 := by
  unfold fracOf at h
  split at h
  · injection h with h; omega
  · exact fracRead_bad _ _ _ h

theorem fracRead_good {t : List UInt8} {k : Int} {n d : Nat} (h : fracRead t k = .good n d) (hl : t.length ≤ 400) : 0 < d ∧ (decDigits n).length ≤ 400 ∧ (decDigits d).length ≤ 401 := by
  have h1 : (decDigits 1).length = 1 := by rw [dec_small (by omega)]; rfl
  unfold fracRead at h
  split at h
  · split at h
    · rename_i ho
      injection h with h2 h3
      subst h2 h3
      have := dval_len ho
      exact ⟨by omega, by omega, by omega⟩
    · cases h
  · split at h
    · split at h
      · rename_i ho
        rw [Bool.and_eq_true] at ho
        have e1 := dval_len ho.1
        have e2 := dval_len ho.2
        have e3 : (t.take k.toNat).length ≤ 400 := by rw [List.length_take]; omega
        have e4 : (t.drop (k.toNat + 1)).length ≤ 400 := by rw [List.length_drop]; omega
        split at h
        · cases h
        · injection h with h2 h3
          subst h2 h3
          exact ⟨by omega, by omega, by omega⟩
      · cases h
    · split at h
      · rename_i ho
        rw [Bool.and_eq_true] at ho
        injection h with h2 h3
        subst h2 h3
        have e1 := dval_len (okDig_append ho.1 ho.2)
        have e3 : (t.take k.toNat ++ t.drop (k.toNat + 1)).length ≤ 400 := by rw [List.length_append, List.length_take, List.length_drop]; omega
        have e4 : (decDigits (10 ^ (t.length - k.toNat - 1))).length = t.length - k.toNat - 1 + 1 := by rw [dec_pow10]; simp
        exact ⟨Nat.pow_pos (by omega), by omega, by omega⟩
      · cases h
theorem fracOf_good {s : List UInt8} {n d : Nat} (h : fracOf s = .good n d) : 0 < d ∧ (decDigits n).length ≤ 400 ∧ (decDigits d).length ≤ 401 := by
  unfold fracOf at h
  split at h
  · cases h
  · refine fracRead_good h ?_
    have := trimPre_len s [45]
    omega
theorem low_len {n : Int} {d : Int} {k : Nat} (h1 : (decDigits n.natAbs).length ≤ k) (h2 : (decDigits d.natAbs).length ≤ k) : (itoa (lowN n d)).length ≤ k + 1 ∧ (itoa (lowD n d)).length ≤ k + 1 := by
  have a : (lowN n d).natAbs ≤ n.natAbs := by
    unfold lowN
    rw [Int.natAbs_ediv_of_dvd (Int.ofNat_dvd_left.2 (Nat.gcd_dvd_left _ _)), Int.natAbs_natCast]
    exact Nat.div_le_self _ _
  have b : (lowD n d).natAbs ≤ d.natAbs := by
    unfold lowD
    rw [Int.natAbs_ediv_of_dvd (Int.ofNat_dvd_left.2 (Nat.gcd_dvd_right _ _)), Int.natAbs_natCast]
    exact Nat.div_le_self _ _
  have a2 := dec_le_len a
  have b2 := dec_le_len b
  have a3 := itoa_len (lowN n d)
  have b3 := itoa_len (lowD n d)
  omega
theorem numTok_good (b : Bool) (k N D : Nat) : numTok b k (.good N D) = .good 2 (ratText (itoa (lowN (sgnd b N) D)) (itoa (lowD (sgnd b N) D))) (itoa (lowN (sgnd b N) D)) (itoa (lowD (sgnd b N) D)) [] k := rfl
theorem sgnd_abs (b : Bool) (n : Nat) : (sgnd b n).natAbs = n := by unfold sgnd; split <;> omega

set_option maxRecDepth 100000 in
set_option maxHeartbeats 2000000 in
theorem number_any (s : List UInt8) (w : World) (hS : Std w) (hl : s.length ≤ 70000) (h0 : 0 < s.length) (HP : Hid (∀ W, Std W → Calls Tryz.prog 182 #[.string ⟨(s.take (numLen s)).toArray⟩] W fun e w' => e = .returned (frdOut (isNeg (s.take (numLen s))) (fracOf (s.take (numLen s)))) ∧ Below W.heap.size W w')) :
    Calls Tryz.prog 136 #[.string ⟨s.toArray⟩] w fun e w' => NextPost w' (numRead s) e ∧ Below w.heap.size w w' := by
  have HL := Lib.hid (fun W => length_numc (s.drop 1) W (by simp; omega))
  have hle := runLen_le numB (s.drop 1)
  have hx1 : (⟨s.toArray⟩ : ByteArray).extract 1 s.length = ⟨(s.drop 1).toArray⟩ := ba_ext (by rw [ext_eq, mk_toList, mk_toList, List.take_of_length_le (Nat.le_refl _)])
  have hx2 : (⟨s.toArray⟩ : ByteArray).extract 0 (1 + runLen numB (s.drop 1)) = ⟨(s.take (numLen s)).toArray⟩ := ba_ext (by rw [ext_eq]; simp [numLen])
  have HN : Box (numLen s = 1 + runLen numB (s.drop 1)) := ⟨rfl⟩
  unfold numRead
  have hd : (s.drop 1).length = s.length - 1 := by simp
  have hle2 : 1 + runLen numB (s.drop 1) ≤ s.length := by omega
  clear hle hd
  generalize runLen numB (s.drop 1) = m at *
  generalize numLen s = n at *
  have hnm := HN.out
  subst hnm
  clear HN
  generalize s.take (1 + m) = t at *
  generalize s.drop 1 = u at *
  generalize isNeg t = b at *
  have HB : Box (∀ er, fracOf t = .bad er → er ≠ 0) := ⟨fun er h => fracOf_bad h⟩
  have HG : Box (∀ n d, fracOf t = .good n d → (itoa (lowN (sgnd b n) d)).length ≤ 1000 ∧ (itoa (lowD (sgnd b n) d)).length ≤ 1000) := ⟨fun n d h => by
    obtain ⟨h1, h2, h3⟩ := fracOf_good h
    have := low_len (n := sgnd b n) (d := (d : Int)) (k := 401) (by rw [sgnd_abs]; omega) (by rw [Int.natAbs_natCast]; omega)
    omega⟩
  have HS := Lib.hid hS
  clear hS
  generalize fracOf t = fr at *
  cases fr with
  | bad er =>
    rw [frdOut_bad] at HP
    have her : (er != 0) = true := by have := HB.out er rfl; simpa using this
    go_enter Tryz.func136, Tryz.ntmps136
    go_wp2_with fail
    refine (HL.out _).mono ?_
    rintro e w1 ⟨rfl, rfl⟩
    go_wp2_with fail
    refine (HP.out _ (HS.out.alloc _)).mono ?_
    rintro e w2 ⟨rfl, hb1⟩
    rw [World.size_alloc] at hb1
    obtain ⟨⟨q0, q1, q2, q3, q4, q5, q6⟩, ⟨f0, f1, f2, f3, f4, f5, f6⟩, hsz⟩ := tok_below hb1
    have hbw2 := below_result hb1
    go_wp2_with fail
    refine bodyPost_ret (v := .tuple #[.agg #[.int .i64 0, .string ⟨#[]⟩, .string ⟨#[]⟩, .string ⟨#[]⟩, .slice Option.none 0 0, .int .i64 0, .int .i64 0], .int .i64 0, .int .i64 2]) (by simp [results, Tryz.results136, go_sem, q0, q1, q2, q3, q4, q5, q6, hsz]) rfl ⟨rfl, ?_⟩
    exact (below7 hbw2 _ _ _ _ _ _ _).alloc (by have := hbw2.size; simp; omega) _
  | good N D =>
    rw [frdOut_good] at HP
    rw [numTok_good]
    obtain ⟨hla, hlb⟩ := HG.out N D rfl
    generalize itoa (lowN (sgnd b N) D) = la at *
    generalize itoa (lowD (sgnd b N) D) = lb at *
    have HT := Lib.hid (fun W => fracText_any la lb W (by omega) (by omega))
    generalize ratText la lb = lt at *
    go_enter Tryz.func136, Tryz.ntmps136
    go_wp2_with fail
    refine (HL.out _).mono ?_
    rintro e w1 ⟨rfl, rfl⟩
    go_wp2_with fail
    refine (HP.out _ (HS.out.alloc _)).mono ?_
    rintro e w2 ⟨rfl, hb1⟩
    rw [World.size_alloc] at hb1
    obtain ⟨⟨q0, q1, q2, q3, q4, q5, q6⟩, ⟨f0, f1, f2, f3, f4, f5, f6⟩, hsz⟩ := tok_below hb1
    have hbw2 := below_result hb1
    go_wp2_with fail
    have r0 : (w2.alloc (.cells #[.string ⟨la.toArray⟩, .string ⟨lb.toArray⟩] 32)).cell? ⟨w2.heap.size, 0, Option.none⟩ = some (.string ⟨la.toArray⟩) := by rw [World.cell?_alloc_new]; rfl
    have r1 : (w2.alloc (.cells #[.string ⟨la.toArray⟩, .string ⟨lb.toArray⟩] 32)).cell? ⟨w2.heap.size, 1, Option.none⟩ = some (.string ⟨lb.toArray⟩) := by rw [World.cell?_alloc_new]; rfl
    replace hb1 := hb1.alloc (by have := hb1.size; simp at this; omega) (.cells #[.string ⟨la.toArray⟩, .string ⟨lb.toArray⟩] 32)
    clear q0 q1 q2 q3 q4 q5 q6 f0 f1 f2 f3 f4 f5 f6
    generalize hWQ : w2.alloc (.cells #[.string ⟨la.toArray⟩, .string ⟨lb.toArray⟩] 32) = WQ at *
    have hne : w2.heap.size ≠ w.heap.size := by omega
    have hne2 : w.heap.size ≠ w2.heap.size := by omega
    clear hWQ hsz hbw2
    go_region_held3 (fun w' => w'.cell? ⟨w2.heap.size, 0, Option.none⟩ = some (.string ⟨la.toArray⟩) ∧ w'.cell? ⟨w2.heap.size, 1, Option.none⟩ = some (.string ⟨lb.toArray⟩))
      (first | go_keep | exact ⟨keep_drew r0 hbk, keep_drew r1 hbk⟩)
      ((first | (go_at_call 183; (with_reducible refine (HT.out _).mono ?_); rintro e w5 ⟨rfl, hbk⟩; obtain ⟨⟨q0, q1, q2, q3, q4, q5, q6⟩, ⟨f0, f1, f2, f3, f4, f5, f6⟩, hsz⟩ := tok_below (hb1.trans ((below_of_drew hbk).mono (by have := hb1.size; simp at this; omega))))))
    have hb2 := hb1.trans ((below_of_drew hbk).mono (by have := hb1.size; simp at this; omega))
    have hbw2 := below_result hb2
    go_wp2_with fail
    refine bodyPost_ret (v := .tuple #[.agg #[.int .i64 2, .string ⟨lt.toArray⟩, .string ⟨la.toArray⟩, .string ⟨lb.toArray⟩, .slice Option.none 0 0, .int .i64 0, .int .i64 0], .int .i64 (1 + m : Nat), .int .i64 0]) (by simp [results, Tryz.results136, go_sem, q0, q1, q2, q3, q4, q5, q6]) rfl ⟨⟨.slice Option.none 0 0, rfl, TRow.nil _ _ _ (by unfold maxLen; omega)⟩, ?_⟩
    exact below7 hbw2 _ _ _ _ _ _ _

end Go.Proofs.YtjgpjhaeoiddbaaGreatDoor

namespace Go.Proofs.YtjgpjhaeoiddbaaGreatDoor
open Go.RowKit Go.Lib

theorem u8_toNat_eq {c : UInt8} {n : Nat} (h : n < 256) : c.toNat = n ↔ c = UInt8.ofNat n := by
  constructor
  · intro e; rw [← e]; simp
  · intro e; rw [e, UInt8.toNat_ofNat']; omega

theorem indexByte_bd : ∀ (l : List UInt8) (c : UInt8), -1 ≤ Lib.indexByte l c ∧ Lib.indexByte l c < l.length
  | [], c => ⟨by rw [Lib.indexByte]; omega, by rw [Lib.indexByte]; simp⟩
  | b :: t, c => by
    have ih := indexByte_bd t c
    rw [Lib.indexByte, List.length_cons]
    split
    · omega
    · split
      · omega
      · omega

theorem innerRead_bad {l : List UInt8} {k : Bool} {e : Int} (h : innerRead l k = .bad e) : e ≠ 0 := by
  unfold innerRead at h
  repeat' split at h
  all_goals first | (injection h with h; omega) | cases h
theorem rowRead_bad {s : List UInt8} {e : Int} (h : rowRead s = .bad e) : e ≠ 0 := by
  unfold rowRead endRead at h
  repeat' split at h
  all_goals first | exact innerRead_bad h | (injection h with h; omega) | cases h

/-- The block of a result, in a later world. -/
theorem block_below {w w' : World} {o : Obj} (hb : Below (w.heap.size + 1) (w.alloc o) w') : w'.heap[w.heap.size]? = some o := (hb.block _ (by omega)).trans (heap_alloc_new _ _)
theorem TRow.store7 {w w2 : World} {v : Value} {x : List Int} {cs : Array Value} {T : TypeId} {p : Nat × Nat} (h : TRow w2 v x) (hg : w2.heap[w.heap.size]? = some (Obj.cells cs T p)) (hT : T ≠ 3) (a0 a1 a2 a3 a4 a5 a6 : Value) :
    TRow (((((((w2.setCell ⟨w.heap.size, 0, Option.none⟩ a0).setCell ⟨w.heap.size, 1, Option.none⟩ a1).setCell ⟨w.heap.size, 2, Option.none⟩ a2).setCell ⟨w.heap.size, 3, Option.none⟩ a3).setCell ⟨w.heap.size, 4, Option.none⟩ a4).setCell ⟨w.heap.size, 5, Option.none⟩ a5).setCell ⟨w.heap.size, 6, Option.none⟩ a6) v x := by
  refine h.keep fun g cur q hc => ?_
  have hne : g ≠ w.heap.size := fun e => by
    subst e
    rw [hg] at hc
    injection hc with hc
    injection hc with _ hc _
    exact hT hc
  rw [Below.heap_setCell _ _ _ _ hne, Below.heap_setCell _ _ _ _ hne, Below.heap_setCell _ _ _ _ hne, Below.heap_setCell _ _ _ _ hne, Below.heap_setCell _ _ _ _ hne, Below.heap_setCell _ _ _ _ hne, Below.heap_setCell _ _ _ _ hne]

set_option maxRecDepth 100000 in
set_option maxHeartbeats 2000000 in
theorem bracket_any (s : List UInt8) (w : World) (hS : Std w) (hL : LenIs w) (hl : s.length ≤ 70000) (h0 : 0 < s.length) :
    Calls Tryz.prog 137 #[.string ⟨s.toArray⟩] w fun e w' => TokPost w' (brackRead s) e ∧ Below w.heap.size w w' := by
  have hx0 := ba_at s 0
  have HI := Lib.hid (fun W => indexByte_any s (brackEnd s) W)
  obtain ⟨hge, hlt⟩ := indexByte_bd s (brackEnd s)
  have hbl : Lib.indexByte s (brackEnd s) + 1 = ((brackLen s : Nat) : Int) := by unfold brackLen; omega
  have hbl2 : brackLen s ≤ s.length := by omega
  have HR := Lib.hid (fun W h1 h2 => rowParse_any (s.take (brackLen s)) W h1 h2 (by rw [List.length_take]; omega))
  have hx2 : (⟨s.toArray⟩ : ByteArray).extract 0 (brackLen s) = ⟨(s.take (brackLen s)).toArray⟩ := ba_ext (by rw [ext_eq]; simp)
  unfold brackRead
  have HB : Box (∀ er, rowRead (s.take (brackLen s)) = .bad er → er ≠ 0) := ⟨fun er h => rowRead_bad h⟩
  have HTL : Box ((s.take (brackLen s)).length = brackLen s) := ⟨by rw [List.length_take]; omega⟩
  generalize rowRead (s.take (brackLen s)) = rr at *
  generalize s.take (brackLen s) = t at *
  generalize brackLen s = n at *
  have HS := Lib.hid hS
  have HLI := Lib.hid hL
  clear hS hL
  have HK : Box ((s[0]?.getD 0 = 60 ∧ brackEnd s = 93 ∧ brackKind s = 4) ∨ (s[0]?.getD 0 ≠ 60 ∧ brackEnd s = 62 ∧ brackKind s = 3)) := ⟨by
    unfold brackEnd brackKind
    by_cases h : s[0]?.getD 0 = 60
    · rw [if_pos h, if_pos h]; exact .inl ⟨h, rfl, rfl⟩
    · rw [if_neg h, if_neg h]; exact .inr ⟨h, rfl, rfl⟩⟩
  generalize brackEnd s = be at *
  generalize brackKind s = bk at *
  generalize s[0]?.getD 0 = c at *
  generalize Lib.indexByte s be = ix at *
  have hix : IntKind.i64.wrap (ix + 1) = (n : Int) := by rw [hbl]; exact wrap_small _ (by omega) (by omega)
  by_cases hn0 : n = 0
  · rw [if_pos hn0]
    obtain ⟨hc, rfl, rfl⟩ | ⟨hc, rfl, rfl⟩ := HK.out
    · have hq : ((c.toNat : Int) == 60) = true := by rw [hc]; rfl
      clear HB HR HTL HK hc
      go_enter Tryz.func137, Tryz.ntmps137
      go_wp2_with fail
      refine (HI.out _).mono ?_
      rintro e w1 ⟨rfl, rfl⟩
      go_wp2_with fail
      refine bodyPost_ret (v := .tuple #[.agg #[.int .i64 0, .string ⟨#[]⟩, .string ⟨#[]⟩, .string ⟨#[]⟩, .slice Option.none 0 0, .int .i64 0, .int .i64 0], .int .i64 15]) (by simp [results, Tryz.results137, go_sem]) rfl ⟨rfl, ?_⟩
      exact (Below.refl _ _).alloc (Nat.le_refl _) _
    · have hq : ((c.toNat : Int) == 60) = false := by rw [beq_eq_false_iff_ne]; intro hh; exact hc (UInt8.toNat_inj.1 (by show c.toNat = 60; omega))
      clear HB HR HTL HK hc
      go_enter Tryz.func137, Tryz.ntmps137
      go_wp2_with fail
      refine (HI.out _).mono ?_
      rintro e w1 ⟨rfl, rfl⟩
      go_wp2_with fail
      refine bodyPost_ret (v := .tuple #[.agg #[.int .i64 0, .string ⟨#[]⟩, .string ⟨#[]⟩, .string ⟨#[]⟩, .slice Option.none 0 0, .int .i64 0, .int .i64 0], .int .i64 15]) (by simp [results, Tryz.results137, go_sem]) rfl ⟨rfl, ?_⟩
      exact (Below.refl _ _).alloc (Nat.le_refl _) _
  rw [if_neg hn0]
  cases rr with
  | bad er =>
    have her : (er != 0) = true := by have := HB.out er rfl; simpa using this
    obtain ⟨hc, rfl, rfl⟩ | ⟨hc, rfl, rfl⟩ := HK.out
    · have hq : ((c.toNat : Int) == 60) = true := by rw [hc]; rfl
      clear HK hc HTL
      go_enter Tryz.func137, Tryz.ntmps137
      go_wp2_with fail
      refine (HI.out _).mono ?_
      rintro e w1 ⟨rfl, rfl⟩
      go_wp2_with fail
      refine (HR.out _ (HS.out.alloc _) (HLI.out.below ((Below.refl _ _).alloc (Nat.le_refl _) _))).mono ?_
      rintro e w2 ⟨rfl, hb1⟩
      rw [World.size_alloc] at hb1
      obtain ⟨⟨q0, q1, q2, q3, q4, q5, q6⟩, ⟨f0, f1, f2, f3, f4, f5, f6⟩, hsz⟩ := tok_below hb1
      have hbw2 := below_result hb1
      go_wp2_with fail
      refine bodyPost_ret (v := .tuple #[.agg #[.int .i64 0, .string ⟨#[]⟩, .string ⟨#[]⟩, .string ⟨#[]⟩, .slice Option.none 0 0, .int .i64 0, .int .i64 0], .int .i64 er]) (by simp [results, Tryz.results137, go_sem, q0, q1, q2, q3, q4, q5, q6]) rfl ⟨rfl, ?_⟩
      exact below7 hbw2 _ _ _ _ _ _ _
    · have hq : ((c.toNat : Int) == 60) = false := by rw [beq_eq_false_iff_ne]; intro hh; exact hc (UInt8.toNat_inj.1 (by show c.toNat = 60; omega))
      clear HK hc HTL
      go_enter Tryz.func137, Tryz.ntmps137
      go_wp2_with fail
      refine (HI.out _).mono ?_
      rintro e w1 ⟨rfl, rfl⟩
      go_wp2_with fail
      refine (HR.out _ (HS.out.alloc _) (HLI.out.below ((Below.refl _ _).alloc (Nat.le_refl _) _))).mono ?_
      rintro e w2 ⟨rfl, hb1⟩
      rw [World.size_alloc] at hb1
      obtain ⟨⟨q0, q1, q2, q3, q4, q5, q6⟩, ⟨f0, f1, f2, f3, f4, f5, f6⟩, hsz⟩ := tok_below hb1
      have hbw2 := below_result hb1
      go_wp2_with fail
      refine bodyPost_ret (v := .tuple #[.agg #[.int .i64 0, .string ⟨#[]⟩, .string ⟨#[]⟩, .string ⟨#[]⟩, .slice Option.none 0 0, .int .i64 0, .int .i64 0], .int .i64 er]) (by simp [results, Tryz.results137, go_sem, q0, q1, q2, q3, q4, q5, q6]) rfl ⟨rfl, ?_⟩
      exact below7 hbw2 _ _ _ _ _ _ _
  | good x kt =>
    obtain ⟨hc, rfl, rfl⟩ | ⟨hc, rfl, rfl⟩ := HK.out
    · have hq : ((c.toNat : Int) == 60) = true := by rw [hc]; rfl
      clear HK hc HTL
      go_enter Tryz.func137, Tryz.ntmps137
      go_wp2_with fail
      refine (HI.out _).mono ?_
      rintro e w1 ⟨rfl, rfl⟩
      go_wp2_with fail
      refine (HR.out _ (HS.out.alloc _) (HLI.out.below ((Below.refl _ _).alloc (Nat.le_refl _) _))).mono ?_
      rintro e w2 ⟨⟨A, cc, rfl, htr⟩, hb1⟩
      rw [World.size_alloc] at hb1
      obtain ⟨⟨q0, q1, q2, q3, q4, q5, q6⟩, ⟨f0, f1, f2, f3, f4, f5, f6⟩, hsz⟩ := tok_below hb1
      have hbw2 := below_result hb1
      have HTR := Lib.hid htr
      have HBL := Lib.hid (block_below hb1)
      clear htr
      go_wp2_with fail
      refine bodyPost_ret (v := .tuple #[.agg #[.int .i64 4, .string ⟨t.toArray⟩, .string ⟨#[]⟩, .string ⟨#[]⟩, .slice A x.length cc, .int .i64 0, .int .i64 0], .int .i64 0]) (by simp [results, Tryz.results137, go_sem, q0, q1, q2, q3, q4, q5, q6]) rfl ⟨⟨.slice A x.length cc, rfl, HTR.out.store7 HBL.out (by decide) _ _ _ _ _ _ _⟩, ?_⟩
      exact below7 hbw2 _ _ _ _ _ _ _
    · have hq : ((c.toNat : Int) == 60) = false := by rw [beq_eq_false_iff_ne]; intro hh; exact hc (UInt8.toNat_inj.1 (by show c.toNat = 60; omega))
      clear HK hc HTL
      go_enter Tryz.func137, Tryz.ntmps137
      go_wp2_with fail
      refine (HI.out _).mono ?_
      rintro e w1 ⟨rfl, rfl⟩
      go_wp2_with fail
      refine (HR.out _ (HS.out.alloc _) (HLI.out.below ((Below.refl _ _).alloc (Nat.le_refl _) _))).mono ?_
      rintro e w2 ⟨⟨A, cc, rfl, htr⟩, hb1⟩
      rw [World.size_alloc] at hb1
      obtain ⟨⟨q0, q1, q2, q3, q4, q5, q6⟩, ⟨f0, f1, f2, f3, f4, f5, f6⟩, hsz⟩ := tok_below hb1
      have hbw2 := below_result hb1
      have HTR := Lib.hid htr
      have HBL := Lib.hid (block_below hb1)
      clear htr
      go_wp2_with fail
      refine bodyPost_ret (v := .tuple #[.agg #[.int .i64 3, .string ⟨t.toArray⟩, .string ⟨#[]⟩, .string ⟨#[]⟩, .slice A x.length cc, .int .i64 0, .int .i64 0], .int .i64 0]) (by simp [results, Tryz.results137, go_sem, q0, q1, q2, q3, q4, q5, q6]) rfl ⟨⟨.slice A x.length cc, rfl, HTR.out.store7 HBL.out (by decide) _ _ _ _ _ _ _⟩, ?_⟩
      exact below7 hbw2 _ _ _ _ _ _ _

end Go.Proofs.YtjgpjhaeoiddbaaGreatDoor

namespace Go.Proofs.YtjgpjhaeoiddbaaGreatDoor
open Go.RowKit Go.Lib

theorem part_at {t : List UInt8} {j : Nat} (h : j < t.length) : t = t.take j ++ (t[j]?.getD 0) :: t.drop (j + 1) := by
  rw [List.getElem?_eq_getElem h, Option.getD_some, ← List.drop_eq_getElem_cons h, List.take_append_drop]

theorem fParse_gen (s t : List UInt8) (b : Bool) (k : Int) (w : World) (hS : Std w) (hl : s.length ≤ 400) (ht : t.length ≤ s.length) (hc : CutIs s t b) (hi : IdxIs t k) (hk : k = -1 ∨ ∃ j : Nat, k = j ∧ j < t.length ∧ (t[j]?.getD 0 = 47 ∨ t[j]?.getD 0 = 46)) :
    Calls Tryz.prog 182 #[.string ⟨s.toArray⟩] w fun e w' => e = .returned (frdOut b (fracRead t k)) ∧ Below w.heap.size w w' := by
  rcases hk with rfl | ⟨j, rfl, hj, h⟩
  · have e : fracRead t (-1) = (if okDig t then .good (dval 0 t) 1 else .bad 15) := by unfold fracRead; rw [if_pos (by omega)]
    rw [e]
    exact fParse_none s t b w hS hl ht hc hi
  · have hp := part_at hj
    have hjl : (t.take j).length = j := by rw [List.length_take]; omega
    have hdl : (t.drop (j + 1)).length = t.length - j - 1 := by rw [List.length_drop]; omega
    rcases h with h | h
    · have e : fracRead t (j : Int) = (if okDig (t.take j) && okDig (t.drop (j + 1)) then (if dval 0 (t.drop (j + 1)) = 0 then .bad 17 else .good (dval 0 (t.take j)) (dval 0 (t.drop (j + 1)))) else .bad 15) := by
        unfold fracRead; rw [if_neg (by omega), Int.toNat_natCast, if_pos h]
      rw [e]
      rw [h] at hp
      refine fParse_sl s _ _ b w hS hl ?_ ?_ ?_
      · rw [← hp]; exact ht
      · rw [← hp]; exact hc
      · rw [← hp, hjl]; exact hi
    · have e : fracRead t (j : Int) = (if okDig (t.take j) && okDig (t.drop (j + 1)) then .good (dval 0 (t.take j ++ t.drop (j + 1))) (10 ^ (t.drop (j + 1)).length) else .bad 15) := by
        unfold fracRead; rw [if_neg (by omega), Int.toNat_natCast, if_neg (by rw [h]; decide), hdl]
      rw [e]
      rw [h] at hp
      refine fParse_pt s _ _ b w hS hl ?_ ?_ ?_
      · rw [← hp]; exact ht
      · rw [← hp]; exact hc
      · rw [← hp, hjl]; exact hi

theorem cut_is (s : List UInt8) : CutIs s (Lib.trimPrefix s [45]) (Lib.hasPrefix s [45]) := fun W => cutPrefix_any s [45] W

theorem indexAny_place : ∀ (t : List UInt8), Lib.indexAny t [47, 46] = -1 ∨ ∃ j : Nat, Lib.indexAny t [47, 46] = j ∧ j < t.length ∧ (t[j]?.getD 0 = 47 ∨ t[j]?.getD 0 = 46)
  | [] => .inl rfl
  | c :: t => by
    rw [Lib.indexAny]
    cases hc : ([47, 46] : List UInt8).contains c with
    | true =>
      rw [if_pos rfl]
      refine .inr ⟨0, rfl, by simp, ?_⟩
      rw [List.contains_iff_mem] at hc
      simpa using hc
    | false =>
      rw [if_neg (by decide)]
      rcases indexAny_place t with h | ⟨j, h, hj, hx⟩
      · rw [h]; exact .inl rfl
      · rw [h, if_neg (by rw [beq_iff_eq]; omega)]
        exact .inr ⟨j + 1, by omega, by simp; omega, by simpa using hx⟩

/-- fraction.Parse of any text of ASCII bytes. -/
theorem fParse_ascii (s : List UInt8) (w : World) (hS : Std w) (hl : s.length ≤ 1000000) (ha : ∀ x ∈ s, x.toNat < 128) :
    Calls Tryz.prog 182 #[.string ⟨s.toArray⟩] w fun e w' => e = .returned (frdOut (isNeg s) (fracOf s)) ∧ Below w.heap.size w w' := by
  unfold isNeg fracOf
  by_cases h : 400 < s.length
  · rw [if_pos h, if_pos h]; exact fParse_long s w h hl
  · rw [if_neg h, if_neg h]
    have htl := trimPre_len s [45]
    refine fParse_gen s _ _ _ w hS (by omega) htl (cut_is s) (fun W => indexAny_ascii _ [47, 46] W (by omega) (by decide) (fun x hx => ha x ?_) (by decide)) (indexAny_place _)
    unfold Lib.trimPrefix at hx
    split at hx
    · exact List.mem_of_mem_drop hx
    · exact hx

end Go.Proofs.YtjgpjhaeoiddbaaGreatDoor

namespace Go.Proofs.YtjgpjhaeoiddbaaGreatDoor
open Go.RowKit Go.Lib

theorem tokPost_bad {w' : World} {er : Int} {e : Ending} (h : TokPost w' (.bad er) e) : e = .returned (.tuple #[.agg #[.int .i64 0, .string ⟨#[]⟩, .string ⟨#[]⟩, .string ⟨#[]⟩, .slice Option.none 0 0, .int .i64 0, .int .i64 0], .int .i64 er]) := h
theorem tokPost_good {w' : World} {kd : Int} {t n d : List UInt8} {x : List Int} {m : Nat} {e : Ending} (h : TokPost w' (.good kd t n d x m) e) : ∃ A c, e = .returned (.tuple #[.agg #[.int .i64 kd, .string ⟨t.toArray⟩, .string ⟨n.toArray⟩, .string ⟨d.toArray⟩, .slice A x.length c, .int .i64 0, .int .i64 0], .int .i64 0]) ∧ TRow w' (.slice A x.length c) x := by
  obtain ⟨rv, he, ht⟩ := h
  have ht' := ht
  obtain ⟨A, c, rfl, _⟩ := ht'
  exact ⟨A, c, he, ht⟩
theorem nextPost_bad {w' : World} {er : Int} {e : Ending} (h : NextPost w' (.bad er) e) : e = .returned (.tuple #[.agg #[.int .i64 0, .string ⟨#[]⟩, .string ⟨#[]⟩, .string ⟨#[]⟩, .slice Option.none 0 0, .int .i64 0, .int .i64 0], .int .i64 0, .int .i64 er]) := h
theorem nextPost_good {w' : World} {kd : Int} {t n d : List UInt8} {x : List Int} {m : Nat} {e : Ending} (h : NextPost w' (.good kd t n d x m) e) : ∃ A c, e = .returned (.tuple #[.agg #[.int .i64 kd, .string ⟨t.toArray⟩, .string ⟨n.toArray⟩, .string ⟨d.toArray⟩, .slice A x.length c, .int .i64 0, .int .i64 0], .int .i64 m, .int .i64 0]) ∧ TRow w' (.slice A x.length c) x := by
  obtain ⟨rv, he, ht⟩ := h
  have ht' := ht
  obtain ⟨A, c, rfl, _⟩ := ht'
  exact ⟨A, c, he, ht⟩
theorem cells_of_below {w w' : World} {cs : Array Value} {T : TypeId} (hb : Below (w.heap.size + 1) (w.alloc (.cells cs T)) w') : Cells w' w.heap.size T cs.toList := block_below hb
theorem Cells.store7 {w2 : World} {g : Nat} {T : TypeId} {xs : List Value} (h : Cells w2 g T xs) (a0 a1 a2 a3 a4 a5 a6 : Value) :
    Cells (((((((w2.setCell ⟨g, 0, Option.none⟩ a0).setCell ⟨g, 1, Option.none⟩ a1).setCell ⟨g, 2, Option.none⟩ a2).setCell ⟨g, 3, Option.none⟩ a3).setCell ⟨g, 4, Option.none⟩ a4).setCell ⟨g, 5, Option.none⟩ a5).setCell ⟨g, 6, Option.none⟩ a6) g T (((((((xs.set 0 a0).set 1 a1).set 2 a2).set 3 a3).set 4 a4).set 5 a5).set 6 a6) :=
  ((((((h.set 0 a0).set 1 a1).set 2 a2).set 3 a3).set 4 a4).set 5 a5).set 6 a6

set_option maxRecDepth 100000 in
set_option maxHeartbeats 4000000 in
theorem next_word (s : List UInt8) (w : World) (hl : s.length ≤ 70000) (h0 : 0 < s.length) (h : letB (s[0]?.getD 0) = true) :
    Calls Tryz.prog 95 #[.string ⟨s.toArray⟩] w fun e w' => NextPost w' (wordRead s) e ∧ Below w.heap.size w w' := by
  have hx0 := ba_at s 0
  have HL := Lib.hid (fun W => letter_any (s[0]?.getD 0) W)
  rw [h] at HL
  have HW := Lib.hid (fun W => word_any s W (by omega))
  have HM : Box (∀ kd t n d x m, wordRead s = .good kd t n d x m → m = t.length ∧ t.length ≤ 70000) := ⟨fun kd t n d x m hh => by
    unfold wordRead at hh
    split at hh
    · cases hh
    · injection hh with _ h2 _ _ _ h6
      subst h2 h6
      have := runLen_le partB s
      rw [List.length_take]
      omega⟩
  generalize wordRead s = rr at *
  generalize s[0]?.getD 0 = c at *
  clear h
  cases rr with
  | bad er =>
    go_enter Tryz.func95, Tryz.ntmps95
    go_wp2_with fail
    refine (HL.out _).mono ?_
    rintro e w1 ⟨rfl, rfl⟩
    go_wp2_with fail
    refine (HW.out _).mono ?_
    rintro e w2 ⟨he, hb1⟩
    obtain rfl := tokPost_bad he
    rw [World.size_alloc] at hb1
    obtain ⟨⟨q0, q1, q2, q3, q4, q5, q6⟩, ⟨f0, f1, f2, f3, f4, f5, f6⟩, hsz⟩ := tok_below hb1
    have hbw2 := below_result hb1
    go_wp2_with fail
    refine bodyPost_ret (v := .tuple #[.agg #[.int .i64 0, .string ⟨#[]⟩, .string ⟨#[]⟩, .string ⟨#[]⟩, .slice Option.none 0 0, .int .i64 0, .int .i64 0], .int .i64 0, .int .i64 er]) (by simp (maxDischargeDepth := 10) [results, Tryz.results95, go_sem, q0, q1, q2, q3, q4, q5, q6]) rfl ⟨rfl, ?_⟩
    exact below7 (below7 hbw2 _ _ _ _ _ _ _) _ _ _ _ _ _ _
  | good kd t n d x m =>
    have HM2 : Box (m = t.length) := ⟨(HM.out _ _ _ _ _ _ rfl).1⟩
    have hml := (HM.out _ _ _ _ _ _ rfl).2
    clear HM
    go_enter Tryz.func95, Tryz.ntmps95
    go_wp2_with fail
    refine (HL.out _).mono ?_
    rintro e w1 ⟨rfl, rfl⟩
    go_wp2_with fail
    refine (HW.out _).mono ?_
    rintro e w2 ⟨he, hb1⟩
    obtain ⟨A, cc, rfl, htr⟩ := tokPost_good he
    rw [World.size_alloc] at hb1
    obtain ⟨⟨q0, q1, q2, q3, q4, q5, q6⟩, ⟨f0, f1, f2, f3, f4, f5, f6⟩, hsz⟩ := tok_below hb1
    have hbw2 := below_result hb1
    have HTR := Lib.hid htr
    have HBL := Lib.hid (cells_of_below hb1)
    clear htr he
    go_wp2_with fail
    refine bodyPost_ret (v := .tuple #[.agg #[.int .i64 kd, .string ⟨t.toArray⟩, .string ⟨n.toArray⟩, .string ⟨d.toArray⟩, .slice A x.length cc, .int .i64 0, .int .i64 0], .int .i64 t.length, .int .i64 0]) (by simp (maxDischargeDepth := 10) [results, Tryz.results95, go_sem, q0, q1, q2, q3, q4, q5, q6]) rfl ⟨⟨.slice A x.length cc, by rw [HM2.out]; rfl, ?_⟩, ?_⟩
    · exact (HTR.out.store7 HBL.out (by decide) _ _ _ _ _ _ _).store7 (Cells.store7 HBL.out _ _ _ _ _ _ _) (by decide) _ _ _ _ _ _ _
    · exact below7 (below7 hbw2 _ _ _ _ _ _ _) _ _ _ _ _ _ _

set_option maxRecDepth 100000 in
set_option maxHeartbeats 4000000 in
theorem next_num (s : List UInt8) (w : World) (hS : Std w) (hl : s.length ≤ 70000) (h0 : 0 < s.length) (h1 : letB (s[0]?.getD 0) = false) (h2 : digB (s[0]?.getD 0) = true) (ha : ∀ x ∈ s.take (numLen s), x.toNat < 128) :
    Calls Tryz.prog 95 #[.string ⟨s.toArray⟩] w fun e w' => NextPost w' (numRead s) e ∧ Below w.heap.size w w' := by
  have hx0 := ba_at s 0
  have HL := Lib.hid (fun W => letter_any (s[0]?.getD 0) W)
  rw [h1] at HL
  have HD := Lib.hid (fun W => digit_any (s[0]?.getD 0) W)
  have HN := Lib.hid (fun W hW => number_any s W hW hl h0 (Lib.hid (fun W2 hW2 => fParse_ascii (s.take (numLen s)) W2 hW2 (by rw [List.length_take]; omega) ha)))
  have HS := Lib.hid hS
  clear hS ha
  generalize numRead s = rr at *
  rw [h2] at HD
  generalize s[0]?.getD 0 = c at *
  clear h1 h2
  cases rr with
  | bad er =>
    go_enter Tryz.func95, Tryz.ntmps95
    go_wp2_with fail
    refine (HL.out _).mono ?_
    rintro e w1 ⟨rfl, rfl⟩
    go_wp2_with fail
    refine (HD.out _).mono ?_
    rintro e w1 ⟨rfl, rfl⟩
    go_wp2_with fail
    refine (HN.out _ (HS.out.alloc _)).mono ?_
    rintro e w2 ⟨he, hb1⟩
    obtain rfl := nextPost_bad he
    rw [World.size_alloc] at hb1
    obtain ⟨⟨q0, q1, q2, q3, q4, q5, q6⟩, ⟨f0, f1, f2, f3, f4, f5, f6⟩, hsz⟩ := tok_below hb1
    have hbw2 := below_result hb1
    go_wp2_with fail
    refine bodyPost_ret (v := .tuple #[.agg #[.int .i64 0, .string ⟨#[]⟩, .string ⟨#[]⟩, .string ⟨#[]⟩, .slice Option.none 0 0, .int .i64 0, .int .i64 0], .int .i64 0, .int .i64 er]) (by simp (maxDischargeDepth := 10) [results, Tryz.results95, go_sem, q0, q1, q2, q3, q4, q5, q6]) rfl ⟨rfl, ?_⟩
    exact below7 hbw2 _ _ _ _ _ _ _
  | good kd t n d x m =>
    go_enter Tryz.func95, Tryz.ntmps95
    go_wp2_with fail
    refine (HL.out _).mono ?_
    rintro e w1 ⟨rfl, rfl⟩
    go_wp2_with fail
    refine (HD.out _).mono ?_
    rintro e w1 ⟨rfl, rfl⟩
    go_wp2_with fail
    refine (HN.out _ (HS.out.alloc _)).mono ?_
    rintro e w2 ⟨he, hb1⟩
    obtain ⟨A, cc, rfl, htr⟩ := nextPost_good he
    rw [World.size_alloc] at hb1
    obtain ⟨⟨q0, q1, q2, q3, q4, q5, q6⟩, ⟨f0, f1, f2, f3, f4, f5, f6⟩, hsz⟩ := tok_below hb1
    have hbw2 := below_result hb1
    have HTR := Lib.hid htr
    have HBL := Lib.hid (cells_of_below hb1)
    clear htr he
    go_wp2_with fail
    refine bodyPost_ret (v := .tuple #[.agg #[.int .i64 kd, .string ⟨t.toArray⟩, .string ⟨n.toArray⟩, .string ⟨d.toArray⟩, .slice A x.length cc, .int .i64 0, .int .i64 0], .int .i64 m, .int .i64 0]) (by simp (maxDischargeDepth := 10) [results, Tryz.results95, go_sem, q0, q1, q2, q3, q4, q5, q6]) rfl ⟨⟨.slice A x.length cc, rfl, ?_⟩, ?_⟩
    · exact HTR.out.store7 HBL.out (by decide) _ _ _ _ _ _ _
    · exact below7 hbw2 _ _ _ _ _ _ _

set_option maxRecDepth 100000 in
set_option maxHeartbeats 4000000 in
theorem next_neg (s : List UInt8) (w : World) (hS : Std w) (hl : s.length ≤ 70000) (h0 : 0 < s.length) (h1 : letB (s[0]?.getD 0) = false) (h2 : digB (s[0]?.getD 0) = false) (h3 : s[0]?.getD 0 = 45) (h4 : 1 < s.length) (h5 : digB (s[1]?.getD 0) = true) (ha : ∀ x ∈ s.take (numLen s), x.toNat < 128) :
    Calls Tryz.prog 95 #[.string ⟨s.toArray⟩] w fun e w' => NextPost w' (numRead s) e ∧ Below w.heap.size w w' := by
  have hx0 := ba_at s 0
  have HL := Lib.hid (fun W => letter_any (s[0]?.getD 0) W)
  rw [h1] at HL
  have HD := Lib.hid (fun W => digit_any (s[0]?.getD 0) W)
  have HN := Lib.hid (fun W hW => number_any s W hW hl h0 (Lib.hid (fun W2 hW2 => fParse_ascii (s.take (numLen s)) W2 hW2 (by rw [List.length_take]; omega) ha)))
  have HS := Lib.hid hS
  clear hS ha
  generalize numRead s = rr at *
  rw [h2] at HD
  have hx1 := ba_at s 1
  have HD2 := Lib.hid (fun W => digit_any (s[1]?.getD 0) W)
  rw [h5] at HD2
  have hq : (((s[0]?.getD 0).toNat : Int) == 45) = true := by rw [h3]; rfl
  generalize s[0]?.getD 0 = c at *
  generalize s[1]?.getD 0 = c1 at *
  clear h1 h2 h3 h5
  cases rr with
  | bad er =>
    go_enter Tryz.func95, Tryz.ntmps95
    go_wp2_with fail
    refine (HL.out _).mono ?_
    rintro e w1 ⟨rfl, rfl⟩
    go_wp2_with fail
    refine (HD.out _).mono ?_
    rintro e w1 ⟨rfl, rfl⟩
    go_wp2_with fail
    refine (HD2.out _).mono ?_
    rintro e w1 ⟨rfl, rfl⟩
    go_wp2_with fail
    refine (HN.out _ (HS.out.alloc _)).mono ?_
    rintro e w2 ⟨he, hb1⟩
    obtain rfl := nextPost_bad he
    rw [World.size_alloc] at hb1
    obtain ⟨⟨q0, q1, q2, q3, q4, q5, q6⟩, ⟨f0, f1, f2, f3, f4, f5, f6⟩, hsz⟩ := tok_below hb1
    have hbw2 := below_result hb1
    go_wp2_with fail
    refine bodyPost_ret (v := .tuple #[.agg #[.int .i64 0, .string ⟨#[]⟩, .string ⟨#[]⟩, .string ⟨#[]⟩, .slice Option.none 0 0, .int .i64 0, .int .i64 0], .int .i64 0, .int .i64 er]) (by simp (maxDischargeDepth := 10) [results, Tryz.results95, go_sem, q0, q1, q2, q3, q4, q5, q6]) rfl ⟨rfl, ?_⟩
    exact below7 hbw2 _ _ _ _ _ _ _
  | good kd t n d x m =>
    go_enter Tryz.func95, Tryz.ntmps95
    go_wp2_with fail
    refine (HL.out _).mono ?_
    rintro e w1 ⟨rfl, rfl⟩
    go_wp2_with fail
    refine (HD.out _).mono ?_
    rintro e w1 ⟨rfl, rfl⟩
    go_wp2_with fail
    refine (HD2.out _).mono ?_
    rintro e w1 ⟨rfl, rfl⟩
    go_wp2_with fail
    refine (HN.out _ (HS.out.alloc _)).mono ?_
    rintro e w2 ⟨he, hb1⟩
    obtain ⟨A, cc, rfl, htr⟩ := nextPost_good he
    rw [World.size_alloc] at hb1
    obtain ⟨⟨q0, q1, q2, q3, q4, q5, q6⟩, ⟨f0, f1, f2, f3, f4, f5, f6⟩, hsz⟩ := tok_below hb1
    have hbw2 := below_result hb1
    have HTR := Lib.hid htr
    have HBL := Lib.hid (cells_of_below hb1)
    clear htr he
    go_wp2_with fail
    refine bodyPost_ret (v := .tuple #[.agg #[.int .i64 kd, .string ⟨t.toArray⟩, .string ⟨n.toArray⟩, .string ⟨d.toArray⟩, .slice A x.length cc, .int .i64 0, .int .i64 0], .int .i64 m, .int .i64 0]) (by simp (maxDischargeDepth := 10) [results, Tryz.results95, go_sem, q0, q1, q2, q3, q4, q5, q6]) rfl ⟨⟨.slice A x.length cc, rfl, ?_⟩, ?_⟩
    · exact HTR.out.store7 HBL.out (by decide) _ _ _ _ _ _ _
    · exact below7 hbw2 _ _ _ _ _ _ _

set_option maxRecDepth 100000 in
set_option maxHeartbeats 4000000 in
theorem next_brack91 (s : List UInt8) (w : World) (hS : Std w) (hL : LenIs w) (hl : s.length ≤ 70000) (h0 : 0 < s.length) (h : s[0]?.getD 0 = 91) :
    Calls Tryz.prog 95 #[.string ⟨s.toArray⟩] w fun e w' => NextPost w' (brackRead s) e ∧ Below w.heap.size w w' := by
  have hx0 := ba_at s 0
  have HL := Lib.hid (fun W => letter_any (s[0]?.getD 0) W)
  have HD := Lib.hid (fun W => digit_any (s[0]?.getD 0) W)
  have HW := Lib.hid (fun W h1 h2 => bracket_any s W h1 h2 hl h0)
  have HS := Lib.hid hS
  have HLI := Lib.hid hL
  have HM : Box (∀ kd t n d x m, brackRead s = .good kd t n d x m → m = t.length ∧ t.length ≤ 70000) := ⟨fun kd t n d x m hh => by
    unfold brackRead brackTok at hh
    split at hh
    · cases hh
    · split at hh
      · cases hh
      · injection hh with _ h2 _ _ _ h6
        subst h2 h6
        rw [List.length_take]
        omega⟩
  generalize brackRead s = rr at *
  rw [h] at hx0 HL HD
  rw [show letB 91 = false by decide] at HL
  rw [show digB 91 = false by decide] at HD
  clear h hS hL
  cases rr with
  | bad er =>
    go_enter Tryz.func95, Tryz.ntmps95
    go_wp2_with fail
    refine (HL.out _).mono ?_
    rintro e w1 ⟨rfl, rfl⟩
    go_wp2_with fail
    refine (HD.out _).mono ?_
    rintro e w1 ⟨rfl, rfl⟩
    go_wp2_with fail
    refine (HW.out _ (HS.out.alloc _) (HLI.out.below ((Below.refl _ _).alloc (Nat.le_refl _) _))).mono ?_
    rintro e w2 ⟨he, hb1⟩
    obtain rfl := tokPost_bad he
    rw [World.size_alloc] at hb1
    obtain ⟨⟨q0, q1, q2, q3, q4, q5, q6⟩, ⟨f0, f1, f2, f3, f4, f5, f6⟩, hsz⟩ := tok_below hb1
    have hbw2 := below_result hb1
    go_wp2_with fail
    refine bodyPost_ret (v := .tuple #[.agg #[.int .i64 0, .string ⟨#[]⟩, .string ⟨#[]⟩, .string ⟨#[]⟩, .slice Option.none 0 0, .int .i64 0, .int .i64 0], .int .i64 0, .int .i64 er]) (by simp (maxDischargeDepth := 10) [results, Tryz.results95, go_sem, q0, q1, q2, q3, q4, q5, q6]) rfl ⟨rfl, ?_⟩
    exact below7 (below7 hbw2 _ _ _ _ _ _ _) _ _ _ _ _ _ _
  | good kd t n d x m =>
    have HM2 : Box (m = t.length) := ⟨(HM.out _ _ _ _ _ _ rfl).1⟩
    have hml := (HM.out _ _ _ _ _ _ rfl).2
    clear HM
    go_enter Tryz.func95, Tryz.ntmps95
    go_wp2_with fail
    refine (HL.out _).mono ?_
    rintro e w1 ⟨rfl, rfl⟩
    go_wp2_with fail
    refine (HD.out _).mono ?_
    rintro e w1 ⟨rfl, rfl⟩
    go_wp2_with fail
    refine (HW.out _ (HS.out.alloc _) (HLI.out.below ((Below.refl _ _).alloc (Nat.le_refl _) _))).mono ?_
    rintro e w2 ⟨he, hb1⟩
    obtain ⟨A, cc, rfl, htr⟩ := tokPost_good he
    rw [World.size_alloc] at hb1
    obtain ⟨⟨q0, q1, q2, q3, q4, q5, q6⟩, ⟨f0, f1, f2, f3, f4, f5, f6⟩, hsz⟩ := tok_below hb1
    have hbw2 := below_result hb1
    have HTR := Lib.hid htr
    have HBL := Lib.hid (cells_of_below hb1)
    clear htr he
    go_wp2_with fail
    refine bodyPost_ret (v := .tuple #[.agg #[.int .i64 kd, .string ⟨t.toArray⟩, .string ⟨n.toArray⟩, .string ⟨d.toArray⟩, .slice A x.length cc, .int .i64 0, .int .i64 0], .int .i64 t.length, .int .i64 0]) (by simp (maxDischargeDepth := 10) [results, Tryz.results95, go_sem, q0, q1, q2, q3, q4, q5, q6]) rfl ⟨⟨.slice A x.length cc, by rw [HM2.out]; rfl, ?_⟩, ?_⟩
    · exact (HTR.out.store7 HBL.out (by decide) _ _ _ _ _ _ _).store7 (Cells.store7 HBL.out _ _ _ _ _ _ _) (by decide) _ _ _ _ _ _ _
    · exact below7 (below7 hbw2 _ _ _ _ _ _ _) _ _ _ _ _ _ _

set_option maxRecDepth 100000 in
set_option maxHeartbeats 4000000 in
theorem next_brack60 (s : List UInt8) (w : World) (hS : Std w) (hL : LenIs w) (hl : s.length ≤ 70000) (h0 : 0 < s.length) (h : s[0]?.getD 0 = 60) :
    Calls Tryz.prog 95 #[.string ⟨s.toArray⟩] w fun e w' => NextPost w' (brackRead s) e ∧ Below w.heap.size w w' := by
  have hx0 := ba_at s 0
  have HL := Lib.hid (fun W => letter_any (s[0]?.getD 0) W)
  have HD := Lib.hid (fun W => digit_any (s[0]?.getD 0) W)
  have HW := Lib.hid (fun W h1 h2 => bracket_any s W h1 h2 hl h0)
  have HS := Lib.hid hS
  have HLI := Lib.hid hL
  have HM : Box (∀ kd t n d x m, brackRead s = .good kd t n d x m → m = t.length ∧ t.length ≤ 70000) := ⟨fun kd t n d x m hh => by
    unfold brackRead brackTok at hh
    split at hh
    · cases hh
    · split at hh
      · cases hh
      · injection hh with _ h2 _ _ _ h6
        subst h2 h6
        rw [List.length_take]
        omega⟩
  generalize brackRead s = rr at *
  rw [h] at hx0 HL HD
  rw [show letB 60 = false by decide] at HL
  rw [show digB 60 = false by decide] at HD
  clear h hS hL
  cases rr with
  | bad er =>
    go_enter Tryz.func95, Tryz.ntmps95
    go_wp2_with fail
    refine (HL.out _).mono ?_
    rintro e w1 ⟨rfl, rfl⟩
    go_wp2_with fail
    refine (HD.out _).mono ?_
    rintro e w1 ⟨rfl, rfl⟩
    go_wp2_with fail
    refine (HW.out _ (HS.out.alloc _) (HLI.out.below ((Below.refl _ _).alloc (Nat.le_refl _) _))).mono ?_
    rintro e w2 ⟨he, hb1⟩
    obtain rfl := tokPost_bad he
    rw [World.size_alloc] at hb1
    obtain ⟨⟨q0, q1, q2, q3, q4, q5, q6⟩, ⟨f0, f1, f2, f3, f4, f5, f6⟩, hsz⟩ := tok_below hb1
    have hbw2 := below_result hb1
    go_wp2_with fail
    refine bodyPost_ret (v := .tuple #[.agg #[.int .i64 0, .string ⟨#[]⟩, .string ⟨#[]⟩, .string ⟨#[]⟩, .slice Option.none 0 0, .int .i64 0, .int .i64 0], .int .i64 0, .int .i64 er]) (by simp (maxDischargeDepth := 10) [results, Tryz.results95, go_sem, q0, q1, q2, q3, q4, q5, q6]) rfl ⟨rfl, ?_⟩
    exact below7 (below7 hbw2 _ _ _ _ _ _ _) _ _ _ _ _ _ _
  | good kd t n d x m =>
    have HM2 : Box (m = t.length) := ⟨(HM.out _ _ _ _ _ _ rfl).1⟩
    have hml := (HM.out _ _ _ _ _ _ rfl).2
    clear HM
    go_enter Tryz.func95, Tryz.ntmps95
    go_wp2_with fail
    refine (HL.out _).mono ?_
    rintro e w1 ⟨rfl, rfl⟩
    go_wp2_with fail
    refine (HD.out _).mono ?_
    rintro e w1 ⟨rfl, rfl⟩
    go_wp2_with fail
    refine (HW.out _ (HS.out.alloc _) (HLI.out.below ((Below.refl _ _).alloc (Nat.le_refl _) _))).mono ?_
    rintro e w2 ⟨he, hb1⟩
    obtain ⟨A, cc, rfl, htr⟩ := tokPost_good he
    rw [World.size_alloc] at hb1
    obtain ⟨⟨q0, q1, q2, q3, q4, q5, q6⟩, ⟨f0, f1, f2, f3, f4, f5, f6⟩, hsz⟩ := tok_below hb1
    have hbw2 := below_result hb1
    have HTR := Lib.hid htr
    have HBL := Lib.hid (cells_of_below hb1)
    clear htr he
    go_wp2_with fail
    refine bodyPost_ret (v := .tuple #[.agg #[.int .i64 kd, .string ⟨t.toArray⟩, .string ⟨n.toArray⟩, .string ⟨d.toArray⟩, .slice A x.length cc, .int .i64 0, .int .i64 0], .int .i64 t.length, .int .i64 0]) (by simp (maxDischargeDepth := 10) [results, Tryz.results95, go_sem, q0, q1, q2, q3, q4, q5, q6]) rfl ⟨⟨.slice A x.length cc, by rw [HM2.out]; rfl, ?_⟩, ?_⟩
    · exact (HTR.out.store7 HBL.out (by decide) _ _ _ _ _ _ _).store7 (Cells.store7 HBL.out _ _ _ _ _ _ _) (by decide) _ _ _ _ _ _ _
    · exact below7 (below7 hbw2 _ _ _ _ _ _ _) _ _ _ _ _ _ _

end Go.Proofs.YtjgpjhaeoiddbaaGreatDoor

namespace Go.Proofs.YtjgpjhaeoiddbaaGreatDoor
open Go.RowKit Go.Lib

set_option maxRecDepth 100000 in
set_option maxHeartbeats 4000000 in
theorem next_rest_a (s : List UInt8) (w : World) (hl : s.length ≤ 70000) (h0 : 0 < s.length) (h1 : letB (s[0]?.getD 0) = false) (h2 : digB (s[0]?.getD 0) = false) (h3 : s[0]?.getD 0 ≠ 45) (h6 : s[0]?.getD 0 ≠ 91) (h7 : s[0]?.getD 0 ≠ 60) :
    Calls Tryz.prog 95 #[.string ⟨s.toArray⟩] w fun e w' => NextPost w' (if 0 ≤ Lib.indexByte marks (s[0]?.getD 0) then .good 5 (s.take 1) [] [] [] 1 else .bad 15) e ∧ Below w.heap.size w w' := by
  have hx0 := ba_at s 0
  have HL := Lib.hid (fun W => letter_any (s[0]?.getD 0) W)
  rw [h1] at HL
  have HD := Lib.hid (fun W => digit_any (s[0]?.getD 0) W)
  rw [h2] at HD
  have HI := Lib.hid (fun W => indexByte_any marks (s[0]?.getD 0) W)
  have hq : (((s[0]?.getD 0).toNat : Int) == 45) = false := by rw [beq_eq_false_iff_ne]; intro hh; exact h3 (UInt8.toNat_inj.1 (by show (s[0]?.getD 0).toNat = 45; omega))
  have hq2 : (((s[0]?.getD 0).toNat : Int) == 91) = false := by rw [beq_eq_false_iff_ne]; intro hh; exact h6 (UInt8.toNat_inj.1 (by show (s[0]?.getD 0).toNat = 91; omega))
  have hq3 : (((s[0]?.getD 0).toNat : Int) == 60) = false := by rw [beq_eq_false_iff_ne]; intro hh; exact h7 (UInt8.toNat_inj.1 (by show (s[0]?.getD 0).toNat = 60; omega))
  clear h1 h2 h3 h6 h7
  have hxt : (⟨s.toArray⟩ : ByteArray).extract 0 1 = ⟨(s.take 1).toArray⟩ := ba_ext (by rw [ext_eq]; simp)
  have htl : (s.take 1).length = 1 := by rw [List.length_take]; omega
  rw [show marks = [40, 41, 123, 125, 58, 44, 61, 124, 64, 126, 42, 43] from rfl] at HI ⊢
  generalize Lib.indexByte [40, 41, 123, 125, 58, 44, 61, 124, 64, 126, 42, 43] (s[0]?.getD 0) = ix at *
  generalize s[0]?.getD 0 = c at *
  generalize s.take 1 = t at *
  by_cases hix : 0 ≤ ix
  · rw [if_pos hix]
    go_enter Tryz.func95, Tryz.ntmps95
    go_wp2_with fail
    refine (HL.out _).mono ?_
    rintro e w1 ⟨rfl, rfl⟩
    go_wp2_with fail
    refine (HD.out _).mono ?_
    rintro e w1 ⟨rfl, rfl⟩
    go_wp2_with fail
    refine (HI.out _).mono ?_
    rintro e w1 ⟨rfl, rfl⟩
    go_wp2_with fail
    refine bodyPost_ret (v := .tuple #[.agg #[.int .i64 5, .string ⟨t.toArray⟩, .string ⟨#[]⟩, .string ⟨#[]⟩, .slice Option.none 0 0, .int .i64 0, .int .i64 0], .int .i64 1, .int .i64 0]) (by simp [results, Tryz.results95, go_sem]) rfl ⟨⟨.slice Option.none 0 0, rfl, TRow.nil _ _ _ (by unfold maxLen; omega)⟩, ?_⟩
    exact (Below.refl _ _).alloc (Nat.le_refl _) _
  · rw [if_neg hix]
    go_enter Tryz.func95, Tryz.ntmps95
    go_wp2_with fail
    refine (HL.out _).mono ?_
    rintro e w1 ⟨rfl, rfl⟩
    go_wp2_with fail
    refine (HD.out _).mono ?_
    rintro e w1 ⟨rfl, rfl⟩
    go_wp2_with fail
    refine (HI.out _).mono ?_
    rintro e w1 ⟨rfl, rfl⟩
    go_wp2_with fail
    refine bodyPost_ret (v := .tuple #[.agg #[.int .i64 0, .string ⟨#[]⟩, .string ⟨#[]⟩, .string ⟨#[]⟩, .slice Option.none 0 0, .int .i64 0, .int .i64 0], .int .i64 0, .int .i64 15]) (by simp [results, Tryz.results95, go_sem]) rfl ⟨rfl, ?_⟩
    exact (Below.refl _ _).alloc (Nat.le_refl _) _

set_option maxRecDepth 100000 in
set_option maxHeartbeats 4000000 in
theorem next_rest_b (s : List UInt8) (w : World) (hl : s.length ≤ 70000) (h0 : 0 < s.length) (h1 : letB (s[0]?.getD 0) = false) (h2 : digB (s[0]?.getD 0) = false) (h3 : s[0]?.getD 0 = 45) (h4 : ¬ 1 < s.length) (h6 : s[0]?.getD 0 ≠ 91) (h7 : s[0]?.getD 0 ≠ 60) :
    Calls Tryz.prog 95 #[.string ⟨s.toArray⟩] w fun e w' => NextPost w' (if 0 ≤ Lib.indexByte marks (s[0]?.getD 0) then .good 5 (s.take 1) [] [] [] 1 else .bad 15) e ∧ Below w.heap.size w w' := by
  have hx0 := ba_at s 0
  have HL := Lib.hid (fun W => letter_any (s[0]?.getD 0) W)
  rw [h1] at HL
  have HD := Lib.hid (fun W => digit_any (s[0]?.getD 0) W)
  rw [h2] at HD
  have HI := Lib.hid (fun W => indexByte_any marks (s[0]?.getD 0) W)
  have hq : (((s[0]?.getD 0).toNat : Int) == 45) = true := by rw [h3]; rfl
  have hq2 : (((s[0]?.getD 0).toNat : Int) == 91) = false := by rw [beq_eq_false_iff_ne]; intro hh; exact h6 (UInt8.toNat_inj.1 (by show (s[0]?.getD 0).toNat = 91; omega))
  have hq3 : (((s[0]?.getD 0).toNat : Int) == 60) = false := by rw [beq_eq_false_iff_ne]; intro hh; exact h7 (UInt8.toNat_inj.1 (by show (s[0]?.getD 0).toNat = 60; omega))
  clear h1 h2 h3 h6 h7
  have hxt : (⟨s.toArray⟩ : ByteArray).extract 0 1 = ⟨(s.take 1).toArray⟩ := ba_ext (by rw [ext_eq]; simp)
  have htl : (s.take 1).length = 1 := by rw [List.length_take]; omega
  rw [show marks = [40, 41, 123, 125, 58, 44, 61, 124, 64, 126, 42, 43] from rfl] at HI ⊢
  generalize Lib.indexByte [40, 41, 123, 125, 58, 44, 61, 124, 64, 126, 42, 43] (s[0]?.getD 0) = ix at *
  generalize s[0]?.getD 0 = c at *
  generalize s.take 1 = t at *
  by_cases hix : 0 ≤ ix
  · rw [if_pos hix]
    go_enter Tryz.func95, Tryz.ntmps95
    go_wp2_with fail
    refine (HL.out _).mono ?_
    rintro e w1 ⟨rfl, rfl⟩
    go_wp2_with fail
    refine (HD.out _).mono ?_
    rintro e w1 ⟨rfl, rfl⟩
    go_wp2_with fail
    refine (HI.out _).mono ?_
    rintro e w1 ⟨rfl, rfl⟩
    go_wp2_with fail
    refine bodyPost_ret (v := .tuple #[.agg #[.int .i64 5, .string ⟨t.toArray⟩, .string ⟨#[]⟩, .string ⟨#[]⟩, .slice Option.none 0 0, .int .i64 0, .int .i64 0], .int .i64 1, .int .i64 0]) (by simp [results, Tryz.results95, go_sem]) rfl ⟨⟨.slice Option.none 0 0, rfl, TRow.nil _ _ _ (by unfold maxLen; omega)⟩, ?_⟩
    exact (Below.refl _ _).alloc (Nat.le_refl _) _
  · rw [if_neg hix]
    go_enter Tryz.func95, Tryz.ntmps95
    go_wp2_with fail
    refine (HL.out _).mono ?_
    rintro e w1 ⟨rfl, rfl⟩
    go_wp2_with fail
    refine (HD.out _).mono ?_
    rintro e w1 ⟨rfl, rfl⟩
    go_wp2_with fail
    refine (HI.out _).mono ?_
    rintro e w1 ⟨rfl, rfl⟩
    go_wp2_with fail
    refine bodyPost_ret (v := .tuple #[.agg #[.int .i64 0, .string ⟨#[]⟩, .string ⟨#[]⟩, .string ⟨#[]⟩, .slice Option.none 0 0, .int .i64 0, .int .i64 0], .int .i64 0, .int .i64 15]) (by simp [results, Tryz.results95, go_sem]) rfl ⟨rfl, ?_⟩
    exact (Below.refl _ _).alloc (Nat.le_refl _) _

set_option maxRecDepth 100000 in
set_option maxHeartbeats 4000000 in
theorem next_rest_c (s : List UInt8) (w : World) (hl : s.length ≤ 70000) (h0 : 0 < s.length) (h1 : letB (s[0]?.getD 0) = false) (h2 : digB (s[0]?.getD 0) = false) (h3 : s[0]?.getD 0 = 45) (h4 : 1 < s.length) (h5 : digB (s[1]?.getD 0) = false) (h6 : s[0]?.getD 0 ≠ 91) (h7 : s[0]?.getD 0 ≠ 60) :
    Calls Tryz.prog 95 #[.string ⟨s.toArray⟩] w fun e w' => NextPost w' (if 0 ≤ Lib.indexByte marks (s[0]?.getD 0) then .good 5 (s.take 1) [] [] [] 1 else .bad 15) e ∧ Below w.heap.size w w' := by
  have hx0 := ba_at s 0
  have HL := Lib.hid (fun W => letter_any (s[0]?.getD 0) W)
  rw [h1] at HL
  have HD := Lib.hid (fun W => digit_any (s[0]?.getD 0) W)
  rw [h2] at HD
  have HI := Lib.hid (fun W => indexByte_any marks (s[0]?.getD 0) W)
  have hx1 := ba_at s 1
  have HD2 := Lib.hid (fun W => digit_any (s[1]?.getD 0) W)
  rw [h5] at HD2
  have hq : (((s[0]?.getD 0).toNat : Int) == 45) = true := by rw [h3]; rfl
  have hq2 : (((s[0]?.getD 0).toNat : Int) == 91) = false := by rw [beq_eq_false_iff_ne]; intro hh; exact h6 (UInt8.toNat_inj.1 (by show (s[0]?.getD 0).toNat = 91; omega))
  have hq3 : (((s[0]?.getD 0).toNat : Int) == 60) = false := by rw [beq_eq_false_iff_ne]; intro hh; exact h7 (UInt8.toNat_inj.1 (by show (s[0]?.getD 0).toNat = 60; omega))
  clear h1 h2 h3 h6 h7
  have hxt : (⟨s.toArray⟩ : ByteArray).extract 0 1 = ⟨(s.take 1).toArray⟩ := ba_ext (by rw [ext_eq]; simp)
  have htl : (s.take 1).length = 1 := by rw [List.length_take]; omega
  rw [show marks = [40, 41, 123, 125, 58, 44, 61, 124, 64, 126, 42, 43] from rfl] at HI ⊢
  generalize Lib.indexByte [40, 41, 123, 125, 58, 44, 61, 124, 64, 126, 42, 43] (s[0]?.getD 0) = ix at *
  generalize s[0]?.getD 0 = c at *
  clear h5
  generalize s[1]?.getD 0 = c1 at *
  generalize s.take 1 = t at *
  by_cases hix : 0 ≤ ix
  · rw [if_pos hix]
    go_enter Tryz.func95, Tryz.ntmps95
    go_wp2_with fail
    refine (HL.out _).mono ?_
    rintro e w1 ⟨rfl, rfl⟩
    go_wp2_with fail
    refine (HD.out _).mono ?_
    rintro e w1 ⟨rfl, rfl⟩
    go_wp2_with fail
    refine (HD2.out _).mono ?_
    rintro e w1 ⟨rfl, rfl⟩
    go_wp2_with fail
    refine (HI.out _).mono ?_
    rintro e w1 ⟨rfl, rfl⟩
    go_wp2_with fail
    refine bodyPost_ret (v := .tuple #[.agg #[.int .i64 5, .string ⟨t.toArray⟩, .string ⟨#[]⟩, .string ⟨#[]⟩, .slice Option.none 0 0, .int .i64 0, .int .i64 0], .int .i64 1, .int .i64 0]) (by simp [results, Tryz.results95, go_sem]) rfl ⟨⟨.slice Option.none 0 0, rfl, TRow.nil _ _ _ (by unfold maxLen; omega)⟩, ?_⟩
    exact (Below.refl _ _).alloc (Nat.le_refl _) _
  · rw [if_neg hix]
    go_enter Tryz.func95, Tryz.ntmps95
    go_wp2_with fail
    refine (HL.out _).mono ?_
    rintro e w1 ⟨rfl, rfl⟩
    go_wp2_with fail
    refine (HD.out _).mono ?_
    rintro e w1 ⟨rfl, rfl⟩
    go_wp2_with fail
    refine (HD2.out _).mono ?_
    rintro e w1 ⟨rfl, rfl⟩
    go_wp2_with fail
    refine (HI.out _).mono ?_
    rintro e w1 ⟨rfl, rfl⟩
    go_wp2_with fail
    refine bodyPost_ret (v := .tuple #[.agg #[.int .i64 0, .string ⟨#[]⟩, .string ⟨#[]⟩, .string ⟨#[]⟩, .slice Option.none 0 0, .int .i64 0, .int .i64 0], .int .i64 0, .int .i64 15]) (by simp [results, Tryz.results95, go_sem]) rfl ⟨rfl, ?_⟩
    exact (Below.refl _ _).alloc (Nat.le_refl _) _

theorem num_ascii (s : List UInt8) (h : (s[0]?.getD 0).toNat < 128) : ∀ x ∈ s.take (numLen s), x.toNat < 128 := by
  cases s with
  | nil => simp
  | cons c t =>
    have h' : c.toNat < 128 := h
    unfold numLen
    rw [List.drop_one, List.tail_cons, Nat.add_comm, List.take_succ_cons]
    intro x hx
    rcases List.mem_cons.1 hx with rfl | hx
    · exact h'
    · have key : ∀ (l : List UInt8), ∀ x ∈ l.take (runLen numB l), x.toNat < 128 := by
        intro l
        induction l with
        | nil => simp
        | cons a l ih =>
          rw [runLen]
          by_cases ha : numB a = true
          · rw [if_pos ha, List.take_succ_cons]
            intro x hx
            rcases List.mem_cons.1 hx with rfl | hx
            · unfold numB digB at ha
              simp only [Bool.or_eq_true, decide_eq_true_eq, beq_iff_eq] at ha
              rcases ha with (ha | rfl) | rfl
              · omega
              · decide
              · decide
            · exact ih x hx
          · rw [if_neg ha]; simp
      exact key t x hx

/-- lexer.next of any text that is not empty. -/
theorem next_any (s : List UInt8) (w : World) (hS : Std w) (hL : LenIs w) (hl : s.length ≤ 70000) (h0 : 0 < s.length) :
    Calls Tryz.prog 95 #[.string ⟨s.toArray⟩] w fun e w' => NextPost w' (nextRead s) e ∧ Below w.heap.size w w' := by
  unfold nextRead
  cases h1 : letB (s[0]?.getD 0) with
  | true => rw [if_pos rfl]; exact next_word s w hl h0 h1
  | false =>
  rw [if_neg (by decide)]
  cases h2 : digB (s[0]?.getD 0) with
  | true =>
    rw [Bool.true_or, if_pos rfl]
    refine next_num s w hS hl h0 h1 h2 (num_ascii s ?_)
    have : 48 ≤ (s[0]?.getD 0).toNat ∧ (s[0]?.getD 0).toNat ≤ 57 := of_decide_eq_true h2
    omega
  | false =>
  rw [Bool.false_or]
  by_cases h3 : s[0]?.getD 0 = 45
  · rw [show (s[0]?.getD 0 == 45) = true by rw [h3]; rfl, Bool.true_and]
    have hne1 : ¬ (s[0]?.getD 0 = 91 ∨ s[0]?.getD 0 = 60) := by rw [h3]; decide
    by_cases h4 : 1 < s.length
    · rw [decide_eq_true h4, Bool.true_and]
      cases h5 : digB (s[1]?.getD 0) with
      | true => rw [if_pos rfl]; exact next_neg s w hS hl h0 h1 h2 h3 h4 h5 (num_ascii s (by rw [h3]; decide))
      | false => rw [if_neg (by decide), if_neg hne1]; exact next_rest_c s w hl h0 h1 h2 h3 h4 h5 (fun h => hne1 (.inl h)) (fun h => hne1 (.inr h))
    · rw [decide_eq_false h4, Bool.false_and, if_neg (by decide), if_neg hne1]
      exact next_rest_b s w hl h0 h1 h2 h3 h4 (fun h => hne1 (.inl h)) (fun h => hne1 (.inr h))
  · rw [show (s[0]?.getD 0 == 45) = false by simpa using h3, Bool.false_and, if_neg (by decide)]
    by_cases h6 : s[0]?.getD 0 = 91
    · rw [if_pos (.inl h6)]; exact next_brack91 s w hS hL hl h0 h6
    · by_cases h7 : s[0]?.getD 0 = 60
      · rw [if_pos (.inr h7)]; exact next_brack60 s w hS hL hl h0 h7
      · rw [if_neg (fun h => h.elim h6 h7)]
        exact next_rest_a s w hl h0 h1 h2 h3 h6 h7

end Go.Proofs.YtjgpjhaeoiddbaaGreatDoor

namespace Go.Proofs.YtjgpjhaeoiddbaaGreatDoor
open Go.RowKit Go.Lib

theorem cutSemi_eq : ∀ (s : List UInt8), (Lib.cut s [59]).1 = cutSemi s := by
  intro s
  have key : (∀ c ∈ s, c ≠ 59) ∨ ∃ l r, s = l ++ 59 :: r ∧ ∀ c ∈ l, c ≠ 59 := by
    induction s with
    | nil => exact .inl (by simp)
    | cons a t ih =>
      by_cases ha : a = 59
      · subst ha; exact .inr ⟨[], t, rfl, by simp⟩
      · rcases ih with h | ⟨l, r, h, hl⟩
        · exact .inl (fun c hc => by rcases List.mem_cons.1 hc with rfl | hc; exact ha; exact h c hc)
        · exact .inr ⟨a :: l, r, by rw [h]; rfl, fun c hc => by rcases List.mem_cons.1 hc with rfl | hc; exact ha; exact hl c hc⟩
  unfold Lib.cut cutSemi
  rcases key with h | ⟨l, r, rfl, hl⟩
  · rw [idx1_none 59 s h, if_neg (by omega)]
    symm
    show s.takeWhile _ = s
    induction s with
    | nil => rfl
    | cons a t ih =>
      rw [List.takeWhile_cons_of_pos (by simpa using h a (by simp)), ih (fun c hc => h c (by simp [hc]))]
  · rw [idx1_at 59 l r hl, if_pos (by omega), Int.toNat_natCast]
    show (l ++ 59 :: r).take l.length = _
    rw [List.take_left' rfl]
    induction l with
    | nil => rfl
    | cons a t ih =>
      rw [List.cons_append, List.takeWhile_cons_of_pos (by simpa using hl a (by simp)), ← ih (fun c hc => hl c (by simp [hc]))]
theorem cutSemi_len (s : List UInt8) : (cutSemi s).length ≤ s.length := (List.takeWhile_prefix _).length_le

set_option maxRecDepth 100000 in
theorem content_any (s : List UInt8) (w : World) (hL : LenIs w) (hl : s.length ≤ 70000) :
    Calls Tryz.prog 94 #[.string ⟨s.toArray⟩] w fun e w' => e = .returned (.string ⟨(cutSemi s).toArray⟩) ∧ Below w.heap.size w w' := by
  obtain ⟨m, hm⟩ := hL
  have HC := Lib.hid (cut_any' s [59] m w (by omega) hm)
  rw [cutSemi_eq] at HC
  generalize cutSemi s = t at *
  generalize (Lib.cut s [59]).2.1 = u at *
  generalize (Lib.cut s [59]).2.2 = b at *
  clear hm
  go_enter Tryz.func94, Tryz.ntmps94
  go_wp2_with fail
  refine HC.out.mono ?_
  rintro e w1 ⟨rfl, hb1⟩
  go_wp2_with fail
  go_ret
  exact ⟨rfl, hb1⟩

theorem nextRead_len {s : List UInt8} {kd : Int} {t n d : List UInt8} {x : List Int} {m : Nat} (h : nextRead s = .good kd t n d x m) (h0 : 0 < s.length) : 1 ≤ m ∧ m ≤ s.length := by
  unfold nextRead at h
  split at h
  · rename_i hc
    unfold wordRead at h
    split at h
    · cases h
    · injection h with _ _ _ _ _ h
      subst h
      refine ⟨?_, runLen_le _ _⟩
      cases s with
      | nil => simp at h0
      | cons c l =>
        have : partB c = true := by unfold partB; rw [show letB c = true from hc]; rfl
        rw [runLen, if_pos this]; omega
  · split at h
    · unfold numRead numTok at h
      split at h
      · cases h
      · injection h with _ _ _ _ _ h
        subst h
        unfold numLen
        have := runLen_le numB (s.drop 1)
        rw [List.length_drop] at this
        omega
    · split at h
      · unfold brackRead brackTok at h
        split at h
        · cases h
        · rename_i hn
          split at h
          · cases h
          · injection h with _ _ _ _ _ h
            subst h
            obtain ⟨h1, h2⟩ := indexByte_bd s (brackEnd s)
            have h3 : brackLen s ≤ s.length := by unfold brackLen; omega
            rw [List.length_take]
            omega
      · split at h
        · injection h with _ _ _ _ _ h
          subst h
          omega
        · cases h
theorem nextRead_bad {s : List UInt8} {e : Int} (h : nextRead s = .bad e) : e ≠ 0 := by
  unfold nextRead at h
  split at h
  · unfold wordRead at h
    split at h
    · injection h with h; omega
    · cases h
  · split at h
    · unfold numRead numTok at h
      split at h
      · injection h with h; omega
      · cases h
    · split at h
      · unfold brackRead brackTok at h
        split at h
        · injection h with h; omega
        · split at h
          · rename_i he
            injection h with h
            subst h
            exact rowRead_bad he
          · cases h
      · split at h
        · cases h
        · injection h with h; omega

theorem cells_new (w : World) (cs : Array Value) (t : TypeId) : ∀ (j : Nat) u, cs.toList[j]? = some u → (w.alloc (.cells cs t)).cell? ((⟨w.heap.size, 0, Option.none⟩ : Addr).add j) = some u := by
  intro j u h
  rw [addr0, World.cell?_alloc_new]
  simpa using h
theorem Tryz.info_tok : (Tryz.prog.info? 38).map (fun i => (i.zero, i.size, i.bytes)) = some (some (.agg #[.int .i64 0, .string ⟨#[]⟩, .string ⟨#[]⟩, .string ⟨#[]⟩, .slice Option.none 0 0, .int .i64 0, .int .i64 0]), 7, 96) := by kernel_rfl

/-- What Scan returns. -/
def ScanPost (w' : World) : Srd → Ending → Prop
  | .bad l c er, e => e = .returned (.tuple #[.slice Option.none 0 0, .agg #[.int .i64 l, .int .i64 c], .int .i64 er])
  | .good t, e => ∃ A c, e = .returned (.tuple #[.slice A t.length c, .agg #[.int .i64 0, .int .i64 0], .int .i64 0]) ∧ IsToks w' w'.heap.size (.slice A t.length c) t

theorem lineRead_end {i : Nat} {ln : List UInt8} {g k : Nat} {acc : List Tok} (h : ¬ k < ln.length) : lineRead i ln g k acc = .good acc := by
  cases g with
  | zero => rfl
  | succ g => rw [lineRead, if_neg h]
theorem lineRead_blank {i : Nat} {ln : List UInt8} {g k : Nat} {acc : List Tok} (h : k < ln.length) (hb : blankB (ln[k]?.getD 0) = true) : lineRead i ln (g + 1) k acc = lineRead i ln g (k + 1) acc := by rw [lineRead, if_pos h, if_pos hb]
theorem lineRead_bad {i : Nat} {ln : List UInt8} {g k : Nat} {acc : List Tok} {e : Int} (h : k < ln.length) (hb : blankB (ln[k]?.getD 0) = false) (hn : nextRead (ln.drop k) = .bad e) : lineRead i ln (g + 1) k acc = .bad (k + 1) e := by rw [lineRead, if_pos h, hb, if_neg (by decide), hn]; rfl
theorem lineRead_full {i : Nat} {ln : List UInt8} {g k : Nat} {acc : List Tok} {kd : Int} {t n d : List UInt8} {x : List Int} {m : Nat} (h : k < ln.length) (hb : blankB (ln[k]?.getD 0) = false) (hn : nextRead (ln.drop k) = .good kd t n d x m) (hf : acc.length = 4000) : lineRead i ln (g + 1) k acc = .bad (k + 1) 4 := by
  rw [lineRead, if_pos h, hb, if_neg (by decide), hn]
  show (if acc.length = 4000 then Lrd.bad (k + 1) 4 else _) = _
  rw [if_pos hf]
theorem lineRead_more {i : Nat} {ln : List UInt8} {g k : Nat} {acc : List Tok} {kd : Int} {t n d : List UInt8} {x : List Int} {m : Nat} (h : k < ln.length) (hb : blankB (ln[k]?.getD 0) = false) (hn : nextRead (ln.drop k) = .good kd t n d x m) (hf : acc.length ≠ 4000) : lineRead i ln (g + 1) k acc = lineRead i ln g (k + m) (acc ++ [⟨kd, t, n, d, x, i + 1, k + 1⟩]) := by
  rw [lineRead, if_pos h, hb, if_neg (by decide), hn]
  show (if acc.length = 4000 then Lrd.bad (k + 1) 4 else _) = _
  rw [if_neg hf]

theorem linesRead_bad {i : Nat} {full : List UInt8} {rest : List (List UInt8)} {acc : List Tok} {c e : Int} (h : lineRead i (cutSemi full) (full.length + 1) 0 acc = .bad c e) : linesRead i (full :: rest) acc = .bad (i + 1) c e := by rw [linesRead, h]
theorem linesRead_same {i : Nat} {full : List UInt8} {rest : List (List UInt8)} {acc l : List Tok} (h : lineRead i (cutSemi full) (full.length + 1) 0 acc = .good l) (hl : l.length = acc.length) : linesRead i (full :: rest) acc = linesRead (i + 1) rest l := by rw [linesRead, h]; show (if l.length = acc.length then _ else _) = _; rw [if_pos hl]
theorem linesRead_full {i : Nat} {full : List UInt8} {rest : List (List UInt8)} {acc l : List Tok} (h : lineRead i (cutSemi full) (full.length + 1) 0 acc = .good l) (hl : l.length ≠ acc.length) (h4 : l.length = 4000) : linesRead i (full :: rest) acc = .bad (i + 1) (full.length + 1) 4 := by rw [linesRead, h]; show (if l.length = acc.length then _ else _) = _; rw [if_neg hl, if_pos h4]
theorem linesRead_more {i : Nat} {full : List UInt8} {rest : List (List UInt8)} {acc l : List Tok} (h : lineRead i (cutSemi full) (full.length + 1) 0 acc = .good l) (hl : l.length ≠ acc.length) (h4 : l.length ≠ 4000) : linesRead i (full :: rest) acc = linesRead (i + 1) rest (l ++ [endTok i full]) := by rw [linesRead, h]; show (if l.length = acc.length then _ else _) = _; rw [if_neg hl, if_neg h4]

end Go.Proofs.YtjgpjhaeoiddbaaGreatDoor

namespace Go.Proofs.YtjgpjhaeoiddbaaGreatDoor
open Go.RowKit Go.Lib

set_option maxRecDepth 100000 in
theorem scan_long (s : List UInt8) (w : World) (hl : 65536 < s.length) (hl2 : s.length ≤ 100000) :
    Calls Tryz.prog 55 #[.string ⟨s.toArray⟩] w fun e w' => ScanPost w' (.bad 1 1 16) e ∧ Below w.heap.size w w' := by
  go_enter Tryz.func55, Tryz.ntmps55
  go_wp2_with fail
  refine bodyPost_ret (v := .tuple #[.slice Option.none 0 0, .agg #[.int .i64 1, .int .i64 1], .int .i64 16]) (by simp [results, Tryz.results55, go_sem]) rfl ⟨rfl, ?_⟩
  exact (Below.refl _ _).alloc (Nat.le_refl _) _

theorem Toks.set {w : World} {base : Nat} {v : Value} {l : List Tok} (h : Toks w base v l) {g k : Nat} {T : TypeId} {xs : List Value} (hg : g < base) (hc : Cells w g T xs) (hT : T ≠ 3) (u : Value) : Toks (w.setCell ⟨g, k, Option.none⟩ u) base v l := by
  obtain ⟨rvs, h1, h2, h3⟩ := h
  refine ⟨rvs, h1, ⟨h2.1, ?_⟩, fun k t rv a b => (h3 k t rv a b).keep fun g' cur p hcur => Below.heap_setCell _ _ _ _ ?_⟩
  · rcases h2.2 with hn | ⟨g', cap, cur, rfl, hb, hh, rest⟩
    · exact .inl hn
    · exact .inr ⟨g', cap, cur, rfl, hb, (Below.heap_setCell _ _ _ _ (by show g' ≠ g; omega)).trans hh, rest⟩
  · intro e
    change g' = g at e
    subst e
    unfold Cells at hc
    rw [hc] at hcur
    injection hcur with hcur
    injection hcur with _ hcur _
    exact hT hcur
theorem below_to_drew {B : Nat} {w0 w1 : World} (h : Below B w0 w1) : Below B w0 w1.drew := ⟨h.os, h.tape, h.output, h.size, h.block⟩
theorem drop_at {α : Type} {l : List α} {k : Nat} (h : k < l.length) (d : α) : l.drop k = (l[k]?.getD d) :: l.drop (k + 1) := by rw [List.getElem?_eq_getElem h, Option.getD_some, List.drop_eq_getElem_cons h]

set_option maxRecDepth 100000 in
set_option maxHeartbeats 8000000 in
theorem scan_main (s : List UInt8) (w : World) (hS : Std w) (hL : LenIs w) (hl : s.length ≤ 65536) :
    Calls Tryz.prog 55 #[.string ⟨s.toArray⟩] w fun e w' => ScanPost w' (linesRead 0 (cutAll 10 s) []) e ∧ Below w.heap.size w w' := by
  obtain ⟨i0, hi0, hz0, hz1, hz2⟩ := info_parts Tryz.info_tok
  have hL' := hL
  obtain ⟨m, hm⟩ := hL'
  have HM := Lib.hid hm
  have HSP := Lib.hid (fun W hm => splitAt_any 10 s m W (by omega) hm)
  have HS := Lib.hid hS
  have HLI := Lib.hid hL
  have hcl : (cutAll 10 s).length ≤ 65537 := by have := cutAll_len 10 s; omega
  have HPL : Box (∀ k, k < (cutAll 10 s).length → ((cutAll 10 s)[k]?.getD []).length ≤ 65536) := ⟨fun k hk => by have := cutAll_piece 10 s _ (List.getElem_mem hk); rw [List.getElem?_eq_getElem hk]; simp only [Option.getD_some]; omega⟩
  have hli : (s.length : Int) ≤ 65536 := by omega
  clear hS hL hm hl
  generalize cutAll 10 s = ws at *
  have HR0 : Box (linesRead 0 (ws.drop 0) [] = linesRead 0 ws []) := ⟨by rw [List.drop_zero]⟩
  generalize linesRead 0 ws [] = R at *
  go_enter Tryz.func55, Tryz.ntmps55
  go_wp2_with fail
  refine (HSP.out _ ((((Below.refl _ _).alloc (Nat.le_refl _) _).cell (cell_lt HM.out)).trans HM.out)).mono ?_
  rintro e w1 ⟨B, rfl, hww, hb1⟩
  rw [World.size_alloc] at hb1
  have HW := Lib.hid hww
  have HB1 := Lib.hid hb1
  have hbw := below_result hb1
  replace HS := Lib.hid (HS.out.below hbw (Nat.le_refl _))
  replace HLI := Lib.hid (HLI.out.below hbw)
  clear hww hb1 HSP HM
  have HBW := Lib.hid hbw
  clear hbw
  go_wp2_with fail
  go_loopw [2, 23] (fun lv i wr => ∃ (k : Nat) (acc : List Tok), k ≤ ws.length ∧ i = .int .i64 k ∧ Toks wr w1.heap.size lv acc ∧ Below w1.heap.size w1 wr ∧ Box (linesRead k (ws.drop k) acc = R) ∧ acc.length ≤ 4000) (fun _ i _ => ws.length - (intOf i).toNat)
  case atStart => exact ⟨0, [], Nat.zero_le _, rfl, Toks.nil _ _, Below.refl _ _, HR0, by simp⟩
  case round =>
    obtain ⟨k, acc, hk, rfl, htk, hbk, HRk, hacc⟩ := hrel
    have HT := Lib.hid htk
    have HBK := Lib.hid hbk
    clear htk hbk
    by_cases hlt : k < ws.length
    · have hc := (HW.out.below HBK.out).2 k hlt
      have hpl := HPL.out k hlt
      have HD := Lib.hid (drop_at hlt [])
      generalize ws[k]?.getD [] = full at *
      have hln := cutSemi_len full
      have HCT := Lib.hid (fun W h => content_any full W h (by omega))
      obtain ⟨RL, HRL⟩ : ∃ RL, Box (lineRead k (cutSemi full) (full.length + 1) 0 acc = RL) := ⟨_, ⟨rfl⟩⟩
      have HQB : Box (∀ c e, RL = .bad c e → R = .bad (k + 1) c e) := ⟨fun c e h => by rw [← HRk.out, HD.out, linesRead_bad (HRL.out.trans h)]⟩
      have HQS : Box (∀ l, RL = .good l → l.length = acc.length → linesRead (k + 1) (ws.drop (k + 1)) l = R) := ⟨fun l h h2 => by rw [← HRk.out, HD.out, linesRead_same (HRL.out.trans h) h2]⟩
      have HQF : Box (∀ l, RL = .good l → l.length ≠ acc.length → l.length = 4000 → R = .bad (k + 1) (full.length + 1) 4) := ⟨fun l h h2 h3 => by rw [← HRk.out, HD.out, linesRead_full (HRL.out.trans h) h2 h3]⟩
      have HQM : Box (∀ l, RL = .good l → l.length ≠ acc.length → l.length ≠ 4000 → linesRead (k + 1) (ws.drop (k + 1)) (l ++ [endTok k full]) = R) := ⟨fun l h h2 h3 => by rw [← HRk.out, HD.out, linesRead_more (HRL.out.trans h) h2 h3]⟩
      clear HRk HD
      generalize cutSemi full = ln at *
      generalize u2 = lv0 at *
      generalize wr = wo at *
      go_wp2_with fail
      refine (HCT.out _ (HLI.out.below HBK.out)).mono ?_
      rintro e w4 ⟨rfl, hb4⟩
      replace HT := Lib.hid (HT.out.below hb4)
      replace HBK := Lib.hid (HBK.out.trans (hb4.mono HBK.out.size))
      clear hb4 hc
      go_wp2_with fail
      go_loopw [2, 8, 9] (fun lv fd j wr => ∃ (c g : Nat) (l : List Tok), c ≤ ln.length ∧ j = .int .i64 c ∧ ln.length + 1 ≤ c + g ∧ Toks wr w1.heap.size lv l ∧ Below w1.heap.size w1 wr ∧ Box (lineRead k ln g c l = RL) ∧ acc.length ≤ l.length ∧ l.length ≤ 4000 ∧ fd = .bool (decide (l.length ≠ acc.length))) (fun _ _ j _ => ln.length - (intOf j).toNat)
      case atStart => exact ⟨0, full.length + 1, acc, Nat.zero_le _, rfl, by omega, HT.out, HBK.out, HRL, Nat.le_refl _, hacc, by simp⟩
      case round =>
        clear HT HBK
        obtain ⟨c, g, l, hcl2, rfl, hcg, htk, hbk, HRc, hal, hl4, rfl⟩ := hrel
        obtain ⟨LA, LC, _, hlv, _⟩ := htk.isToks
        subst hlv
        have HT := Lib.hid htk
        have HBK := Lib.hid hbk
        clear htk hbk
        by_cases hlc : c < ln.length
        · obtain ⟨g, rfl⟩ : ∃ g', g = g' + 1 := ⟨g - 1, by omega⟩
          have hx := ba_at ln c
          have HBB : Box (blankB (ln[c]?.getD 0) = (decide ((ln[c]?.getD 0).toNat = 32) || decide ((ln[c]?.getD 0).toNat = 9) || decide ((ln[c]?.getD 0).toNat = 13))) := ⟨by
            unfold blankB
            rw [show (32 : UInt8) = UInt8.ofNat 32 from rfl, show (9 : UInt8) = UInt8.ofNat 9 from rfl, show (13 : UInt8) = UInt8.ofNat 13 from rfl, u8_beq _ _ (by omega), u8_beq _ _ (by omega), u8_beq _ _ (by omega)]⟩
          have HL1 : Box (blankB (ln[c]?.getD 0) = true → lineRead k ln g (c + 1) l = RL) := ⟨fun h => by rw [← HRc.out, lineRead_blank hlc h]⟩
          have HL2 : Box (∀ e, blankB (ln[c]?.getD 0) = false → nextRead (ln.drop c) = .bad e → RL = .bad (c + 1) e) := ⟨fun e h1 h2 => by rw [← HRc.out, lineRead_bad hlc h1 h2]⟩
          have HL3 : Box (∀ kd t n d x m, blankB (ln[c]?.getD 0) = false → nextRead (ln.drop c) = .good kd t n d x m → l.length = 4000 → RL = .bad (c + 1) 4) := ⟨fun kd t n d x m h1 h2 h3 => by rw [← HRc.out, lineRead_full hlc h1 h2 h3]⟩
          have HL4 : Box (∀ kd t n d x m, blankB (ln[c]?.getD 0) = false → nextRead (ln.drop c) = .good kd t n d x m → l.length ≠ 4000 → lineRead k ln g (c + m) (l ++ [⟨kd, t, n, d, x, k + 1, c + 1⟩]) = RL) := ⟨fun kd t n d x m h1 h2 h3 => by rw [← HRc.out, lineRead_more hlc h1 h2 h3]⟩
          generalize ln[c]?.getD 0 = ch at *
          clear HRc
          cases hbl : blankB ch with
          | true =>
            have HL1' := HL1.out hbl
            rw [hbl] at HBB
            have H3 : Box (ch.toNat = 32 ∨ ch.toNat = 9 ∨ ch.toNat = 13) := ⟨by have := HBB.out; simp at this; omega⟩
            clear HL1 HL2 HL3 HL4 HBB hbl
            have HR1 : Box (lineRead k ln g (c + 1) l = RL) := ⟨HL1'⟩
            clear HL1'
            rcases H3.out with h3 | h3 | h3
            · have q1 : ((ch.toNat : Int) == 32) = true := by rw [h3]; rfl
              clear h3
              go_wp2_with fail
              go_roundw
              case rel => exact ⟨c + 1, g, l, by omega, by go_num, by omega, HT.out, HBK.out, HR1, hal, hl4, rfl⟩
              case measure => simp [intOf]; omega
            · have q1 : ((ch.toNat : Int) == 32) = false := by rw [h3]; rfl
              have q2 : ((ch.toNat : Int) == 9) = true := by rw [h3]; rfl
              clear h3
              go_wp2_with fail
              go_roundw
              case rel => exact ⟨c + 1, g, l, by omega, by go_num, by omega, HT.out, HBK.out, HR1, hal, hl4, rfl⟩
              case measure => simp [intOf]; omega
            · have q1 : ((ch.toNat : Int) == 32) = false := by rw [h3]; rfl
              have q2 : ((ch.toNat : Int) == 9) = false := by rw [h3]; rfl
              have q3 : ((ch.toNat : Int) == 13) = true := by rw [h3]; rfl
              clear h3
              go_wp2_with fail
              go_roundw
              case rel => exact ⟨c + 1, g, l, by omega, by go_num, by omega, HT.out, HBK.out, HR1, hal, hl4, rfl⟩
              case measure => simp [intOf]; omega
          | false =>
            rw [hbl] at HBB
            have H3 : Box (ch.toNat ≠ 32 ∧ ch.toNat ≠ 9 ∧ ch.toNat ≠ 13) := ⟨by have := HBB.out; simp at this; omega⟩
            obtain ⟨n1, n2, n3⟩ := H3.out
            have q1 : ((ch.toNat : Int) == 32) = false := by rw [beq_eq_false_iff_ne]; omega
            have q2 : ((ch.toNat : Int) == 9) = false := by rw [beq_eq_false_iff_ne]; omega
            have q3 : ((ch.toNat : Int) == 13) = false := by rw [beq_eq_false_iff_ne]; omega
            clear n1 n2 n3 H3 HBB HL1
            have hxd : (⟨ln.toArray⟩ : ByteArray).extract c ln.length = ⟨(ln.drop c).toArray⟩ := ba_ext (by rw [ext_eq, mk_toList, mk_toList, List.take_of_length_le (Nat.le_refl _)])
            have HDL : Box ((ln.drop c).length = ln.length - c) := ⟨by rw [List.length_drop]⟩
            have HN := Lib.hid (fun W h1 h2 => next_any (ln.drop c) W h1 h2 (by rw [HDL.out]; omega) (by rw [HDL.out]; omega))
            have HNB : Box (∀ e, nextRead (ln.drop c) = .bad e → e ≠ 0) := ⟨fun e h => nextRead_bad h⟩
            have HNL : Box (∀ kd t n d x m, nextRead (ln.drop c) = .good kd t n d x m → 1 ≤ m ∧ c + m ≤ ln.length) := ⟨fun kd t n d x m h => by have := nextRead_len h (by rw [HDL.out]; omega); rw [HDL.out] at this; omega⟩
            replace HL2 : Box (∀ e, nextRead (ln.drop c) = .bad e → RL = .bad (c + 1) e) := ⟨fun e => HL2.out e hbl⟩
            replace HL3 : Box (∀ kd t n d x m, nextRead (ln.drop c) = .good kd t n d x m → l.length = 4000 → RL = .bad (c + 1) 4) := ⟨fun kd t n d x m => HL3.out kd t n d x m hbl⟩
            replace HL4 : Box (∀ kd t n d x m, nextRead (ln.drop c) = .good kd t n d x m → l.length ≠ 4000 → lineRead k ln g (c + m) (l ++ [⟨kd, t, n, d, x, k + 1, c + 1⟩]) = RL) := ⟨fun kd t n d x m => HL4.out kd t n d x m hbl⟩
            clear hbl HDL
            generalize nextRead (ln.drop c) = nr at *
            generalize ln.drop c = lt at *
            cases nr with
            | bad er =>
              have HRB : Box (R = .bad (k + 1) (c + 1) er) := ⟨HQB.out _ _ (HL2.out _ rfl)⟩
              have her : (er != 0) = true := by have := HNB.out er rfl; simpa using this
              have her2 : (er == 0) = false := by have := HNB.out er rfl; simpa using this
              clear HL2 HL3 HL4 HNB HNL
              go_wp2_with fail
              refine (HN.out _ ((HS.out.below HBK.out (Nat.le_refl _)).alloc _) ((HLI.out.below HBK.out).below ((Below.refl _ _).alloc (Nat.le_refl _) _))).mono ?_
              rintro e w5 ⟨he, hb5⟩
              obtain rfl := nextPost_bad he
              clear he
              have hsz1 : w.heap.size + 1 ≤ w1.heap.size := by have := HB1.out.size; simp at this; omega
              have hsz2 : w1.heap.size ≤ wr.heap.size := HBK.out.size
              have hbR := ((HB1.out.trans (HBK.out.mono hsz1)).alloc (by omega) (.cells #[.int .i64 ((k : Int) + 1), .int .i64 ((c : Int) + 1)] 36)).trans (hb5.mono (by simp; omega))
              rw [World.size_alloc] at hb5
              replace hb5 := hb5.alloc (by have := hb5.size; simp at this; omega) (.cells #[.int .i64 0, .string ⟨#[]⟩, .string ⟨#[]⟩, .string ⟨#[]⟩, .slice Option.none 0 0, .int .i64 0, .int .i64 0] 38)
              replace hbR := hbR.alloc (by have := hbR.size; simp at this; omega) (.cells #[.int .i64 0, .string ⟨#[]⟩, .string ⟨#[]⟩, .string ⟨#[]⟩, .slice Option.none 0 0, .int .i64 0, .int .i64 0] 38)
              go_wp2_with fail
              generalize hWQ : w5.alloc (.cells #[.int .i64 0, .string ⟨#[]⟩, .string ⟨#[]⟩, .string ⟨#[]⟩, .slice Option.none 0 0, .int .i64 0, .int .i64 0] 38) = WQ at *
              clear hWQ
              obtain ⟨p0, p1, p2, p3, p4⟩ := two_below hb5
              obtain ⟨r0, r1, r2, r3, r4⟩ := two_below hbR
              have hne : w.heap.size ≠ wr.heap.size := by omega
              have hne2 : wr.heap.size ≠ w.heap.size := by omega
              have hbE := below_result hbR
              clear hb5 hbR HN HS HLI HT HBK HBW HB1 HW HCT HQS HQF HQM HQB HRL hsz1 hsz2
              go_region
              go_wp2_with fail
              refine bodyPost_ret (v := .tuple #[.slice Option.none 0 0, .agg #[.int .i64 ((k : Int) + 1), .int .i64 ((c : Int) + 1)], .int .i64 er]) (by simp [results, Tryz.results55, go_sem, r0, r1]) rfl ⟨by rw [HRB.out]; rfl, ?_⟩
              exact below_to_drew ((hbE.setCell (Nat.le_refl _) _).setCell (Nat.le_refl _) _)
            | good kd t n d x m =>
              obtain ⟨hm1, hm2⟩ := HNL.out _ _ _ _ _ _ rfl
              by_cases h40 : l.length = 4000
              · have HRB : Box (R = .bad (k + 1) (c + 1) 4) := ⟨HQB.out _ _ (HL3.out _ _ _ _ _ _ rfl h40)⟩
                have h4a : ((l.length : Int) == 4000) = true := by rw [h40]; rfl
                clear HL2 HL3 HL4 HNB HNL h40
                go_wp2_with fail
                refine (HN.out _ ((HS.out.below HBK.out (Nat.le_refl _)).alloc _) ((HLI.out.below HBK.out).below ((Below.refl _ _).alloc (Nat.le_refl _) _))).mono ?_
                rintro e w5 ⟨he, hb5⟩
                obtain ⟨A5, C5, rfl, htr⟩ := nextPost_good he
                clear he htr
                have hsz1 : w.heap.size + 1 ≤ w1.heap.size := by have := HB1.out.size; simp at this; omega
                have hsz2 : w1.heap.size ≤ wr.heap.size := HBK.out.size
                have hbR := ((HB1.out.trans (HBK.out.mono hsz1)).alloc (by omega) (.cells #[.int .i64 ((k : Int) + 1), .int .i64 ((c : Int) + 1)] 36)).trans (hb5.mono (by simp; omega))
                rw [World.size_alloc] at hb5
                replace hb5 := hb5.alloc (by have := hb5.size; simp at this; omega) (.cells #[.int .i64 kd, .string ⟨t.toArray⟩, .string ⟨n.toArray⟩, .string ⟨d.toArray⟩, .slice A5 x.length C5, .int .i64 0, .int .i64 0] 38)
                replace hbR := hbR.alloc (by have := hbR.size; simp at this; omega) (.cells #[.int .i64 kd, .string ⟨t.toArray⟩, .string ⟨n.toArray⟩, .string ⟨d.toArray⟩, .slice A5 x.length C5, .int .i64 0, .int .i64 0] 38)
                go_wp2_with fail
                generalize hWQ : w5.alloc (.cells #[.int .i64 kd, .string ⟨t.toArray⟩, .string ⟨n.toArray⟩, .string ⟨d.toArray⟩, .slice A5 x.length C5, .int .i64 0, .int .i64 0] 38) = WQ at *
                clear hWQ
                obtain ⟨p0, p1, p2, p3, p4⟩ := two_below hb5
                obtain ⟨r0, r1, r2, r3, r4⟩ := two_below hbR
                have hne : w.heap.size ≠ wr.heap.size := by omega
                have hne2 : wr.heap.size ≠ w.heap.size := by omega
                have hbE := below_result hbR
                clear hb5 hbR HN HS HLI HT HBK HBW HB1 HW HCT HQS HQF HQM HQB HRL hsz1 hsz2
                go_region
                go_wp2_with fail
                refine bodyPost_ret (v := .tuple #[.slice Option.none 0 0, .agg #[.int .i64 ((k : Int) + 1), .int .i64 ((c : Int) + 1)], .int .i64 4]) (by simp [results, Tryz.results55, go_sem, r0, r1]) rfl ⟨by rw [HRB.out]; rfl, ?_⟩
                exact below_to_drew ((hbE.setCell (Nat.le_refl _) _).setCell (Nat.le_refl _) _)
              · have HRM : Box (lineRead k ln g (c + m) (l ++ [⟨kd, t, n, d, x, k + 1, c + 1⟩]) = RL) := ⟨HL4.out _ _ _ _ _ _ rfl h40⟩
                have h4a : ((l.length : Int) == 4000) = false := by rw [beq_eq_false_iff_ne]; omega
                have hl3 : l.length < 4000 := by omega
                clear HL2 HL3 HL4 HNB HNL h40
                go_wp2_with fail
                refine (HN.out _ ((HS.out.below HBK.out (Nat.le_refl _)).alloc _) ((HLI.out.below HBK.out).below ((Below.refl _ _).alloc (Nat.le_refl _) _))).mono ?_
                rintro e w5 ⟨he, hb5⟩
                obtain ⟨A5, C5, rfl, htr⟩ := nextPost_good he
                have HTR := Lib.hid htr
                clear he htr
                have hwr5 : Below wr.heap.size wr w5 := ((Below.refl _ _).alloc (Nat.le_refl _) _).trans (hb5.mono (by simp))
                rw [World.size_alloc] at hb5
                obtain ⟨p0, p1, p2, p3, p4⟩ := two_below hb5
                have HWR5 := Lib.hid hwr5
                clear hb5 hwr5
                replace HT := Lib.hid (HT.out.below HWR5.out)
                replace HBK := Lib.hid (HBK.out.trans (HWR5.out.mono HBK.out.size))
                clear HWR5
                obtain ⟨rvs, hr1, hown, hr3⟩ := HT.out
                have HR1 : Box (rvs.length = l.length) := ⟨hr1⟩
                have HOW := Lib.hid hown
                have HR3 := Lib.hid hr3
                clear hr1 hown hr3 HT
                have hnw := cells_new (w5.alloc (.cells #[.int .i64 kd, .string ⟨t.toArray⟩, .string ⟨n.toArray⟩, .string ⟨d.toArray⟩, .slice A5 x.length C5, .int .i64 ((k : Int) + 1), .int .i64 ((c : Int) + 1)] 38)) #[.int .i64 kd, .string ⟨t.toArray⟩, .string ⟨n.toArray⟩, .string ⟨d.toArray⟩, .slice A5 x.length C5, .int .i64 ((k : Int) + 1), .int .i64 ((c : Int) + 1)] 38
                rw [World.size_alloc] at hnw
                have HNW := Lib.hid hnw
                clear hnw
                go_wp2_with (at_builtin; refine wpList_append_own _ rfl _ _ _ rfl w1.heap.size 38 i0 (.agg #[.int .i64 0, .string ⟨#[]⟩, .string ⟨#[]⟩, .string ⟨#[]⟩, .slice Option.none 0 0, .int .i64 0, .int .i64 0]) 7 96 Tryz.underlying22 hi0 hz0 hz1 hz2 rfl (by decide) _ _ _ rfl ((HOW.out.alloc _).alloc _) ⟨w5.heap.size + 1, 0, Option.none⟩ 1 1 [.int .i64 kd, .string ⟨t.toArray⟩, .string ⟨n.toArray⟩, .string ⟨d.toArray⟩, .slice A5 x.length C5, .int .i64 ((k : Int) + 1), .int .i64 ((c : Int) + 1)] rfl rfl HNW.out (by intro u hu; simp at hu; rcases hu with rfl | rfl | rfl | rfl | rfl | rfl | rfl <;> rfl) (by unfold maxLen; omega) (by omega) (by have := HBK.out.size; simp; omega) ?_; intro v3 w3 hown3 hg3 _)
                go_wp2
                go_roundw
                case rel =>
                  have hba : Below w5.heap.size w5 ((w5.alloc (.cells #[.int .i64 kd, .string ⟨t.toArray⟩, .string ⟨n.toArray⟩, .string ⟨d.toArray⟩, .slice A5 x.length C5, .int .i64 ((k : Int) + 1), .int .i64 ((c : Int) + 1)] 38)).alloc (.cells #[.int .i64 kd, .string ⟨t.toArray⟩, .string ⟨n.toArray⟩, .string ⟨d.toArray⟩, .slice A5 x.length C5, .int .i64 ((k : Int) + 1), .int .i64 ((c : Int) + 1)] 38)) := ((Below.refl _ _).alloc (Nat.le_refl _) _).alloc (by simp) _
                  refine ⟨c + m, g, l ++ [⟨kd, t, n, d, x, k + 1, c + 1⟩], by omega, by go_num, by omega, ?_, ?_, HRM, by simp; omega, by simp; omega, by rw [decide_eq_true (by simp; omega)]⟩
                  · exact Toks.push (rv := .slice A5 x.length C5) HR1.out ((HOW.out.alloc _).alloc _) (fun k t rv a b => (HR3.out k t rv a b).below hba) (HTR.out.below hba) hown3 hg3
                  · exact (HBK.out.trans (hba.mono HBK.out.size)).grown hg3 (by have := HBK.out.size; simp; omega) (fun k hk => (HOW.out.lt k hk).1)
                case measure => simp [intOf]; omega
        · have HRG : Box (RL = .good l) := ⟨by rw [← HRc.out, lineRead_end hlc]⟩
          clear HRc
          by_cases hsm : l.length = acc.length
          · have HRS : Box (linesRead (k + 1) (ws.drop (k + 1)) l = R) := ⟨HQS.out l HRG.out hsm⟩
            rw [show decide (l.length ≠ acc.length) = false from decide_eq_false (fun h => h hsm)]
            go_wp2_with fail
            go_roundw
            case rel => exact ⟨k + 1, l, by omega, by go_num, HT.out, HBK.out, HRS, hl4⟩
            case measure => simp [intOf]; omega
          · rw [show decide (l.length ≠ acc.length) = true from decide_eq_true hsm]
            by_cases h40 : l.length = 4000
            · have HRB : Box (R = .bad (k + 1) (full.length + 1) 4) := ⟨HQF.out l HRG.out hsm h40⟩
              have h4a : ((l.length : Int) == 4000) = true := by rw [h40]; rfl
              clear h40 hsm
              have hsz1 : w.heap.size + 1 ≤ w1.heap.size := by have := HB1.out.size; simp at this; omega
              have hsz2 : w1.heap.size ≤ wr.heap.size := HBK.out.size
              have hbR := ((HB1.out.trans (HBK.out.mono hsz1)).alloc (by omega) (.cells #[.int .i64 ((k : Int) + 1), .int .i64 ((full.length : Int) + 1)] 36))
              have hb5 : Below (wr.heap.size + 1) (wr.alloc (.cells #[.int .i64 ((k : Int) + 1), .int .i64 ((full.length : Int) + 1)] 36)) (wr.alloc (.cells #[.int .i64 ((k : Int) + 1), .int .i64 ((full.length : Int) + 1)] 36)) := Below.refl _ _
              go_wp2_with fail
              generalize hWQ : wr.alloc (.cells #[.int .i64 ((k : Int) + 1), .int .i64 ((full.length : Int) + 1)] 36) = WQ at hbR ⊢
              rw [hWQ] at hb5
              rw [← hWQ] at hb5
              have hb6 : Below (wr.heap.size + 1) (wr.alloc (.cells #[.int .i64 ((k : Int) + 1), .int .i64 ((full.length : Int) + 1)] 36)) WQ := by rw [hWQ]; exact Below.refl _ _
              obtain ⟨p0, p1, p2, p3, p4⟩ := two_below hb6
              obtain ⟨r0, r1, r2, r3, r4⟩ := two_below hbR
              have hne : w.heap.size ≠ wr.heap.size := by omega
              have hne2 : wr.heap.size ≠ w.heap.size := by omega
              have hbE := below_result hbR
              clear hb5 hb6 hbR hWQ HS HLI HT HBK HBW HB1 HW HCT HQS HQF HQM HQB HRL hsz1 hsz2
              go_region
              go_wp2_with fail
              refine bodyPost_ret (v := .tuple #[.slice Option.none 0 0, .agg #[.int .i64 ((k : Int) + 1), .int .i64 ((full.length : Int) + 1)], .int .i64 4]) (by simp [results, Tryz.results55, go_sem, r0, r1]) rfl ⟨by rw [HRB.out]; rfl, ?_⟩
              exact below_to_drew ((hbE.setCell (Nat.le_refl _) _).setCell (Nat.le_refl _) _)
            · have HRM : Box (linesRead (k + 1) (ws.drop (k + 1)) (l ++ [endTok k full]) = R) := ⟨HQM.out l HRG.out hsm h40⟩
              have h4a : ((l.length : Int) == 4000) = false := by rw [beq_eq_false_iff_ne]; omega
              have hl3 : l.length < 4000 := by omega
              clear h40 hsm
              obtain ⟨rvs, hr1, hown, hr3⟩ := HT.out
              have HR1 : Box (rvs.length = l.length) := ⟨hr1⟩
              have HOW := Lib.hid hown
              have HR3 := Lib.hid hr3
              clear hr1 hown hr3 HT
              have hnw := cells_new (wr.alloc (.cells #[.int .i64 ((k : Int) + 1), .int .i64 ((full.length : Int) + 1)] 36)) #[.int .i64 6, .string ⟨#[10]⟩, .string ⟨#[]⟩, .string ⟨#[]⟩, .slice Option.none 0 0, .int .i64 ((k : Int) + 1), .int .i64 ((full.length : Int) + 1)] 38
              rw [World.size_alloc] at hnw
              have HNW := Lib.hid hnw
              clear hnw
              go_wp2_with (at_builtin; refine wpList_append_own _ rfl _ _ _ rfl w1.heap.size 38 i0 (.agg #[.int .i64 0, .string ⟨#[]⟩, .string ⟨#[]⟩, .string ⟨#[]⟩, .slice Option.none 0 0, .int .i64 0, .int .i64 0]) 7 96 Tryz.underlying22 hi0 hz0 hz1 hz2 rfl (by decide) _ _ _ rfl ((HOW.out.alloc _).alloc _) ⟨wr.heap.size + 1, 0, Option.none⟩ 1 1 [.int .i64 6, .string ⟨#[10]⟩, .string ⟨#[]⟩, .string ⟨#[]⟩, .slice Option.none 0 0, .int .i64 ((k : Int) + 1), .int .i64 ((full.length : Int) + 1)] rfl rfl HNW.out (by intro u hu; simp at hu; rcases hu with rfl | rfl | rfl | rfl | rfl | rfl | rfl <;> rfl) (by unfold maxLen; omega) (by omega) (by have := HBK.out.size; simp; omega) ?_; intro v3 w3 hown3 hg3 _)
              go_wp2
              go_roundw
              case rel =>
                have hba : Below wr.heap.size wr ((wr.alloc (.cells #[.int .i64 ((k : Int) + 1), .int .i64 ((full.length : Int) + 1)] 36)).alloc (.cells #[.int .i64 6, .string ⟨#[10]⟩, .string ⟨#[]⟩, .string ⟨#[]⟩, .slice Option.none 0 0, .int .i64 ((k : Int) + 1), .int .i64 ((full.length : Int) + 1)] 38)) := ((Below.refl _ _).alloc (Nat.le_refl _) _).alloc (by simp) _
                refine ⟨k + 1, l ++ [endTok k full], by omega, by go_num, ?_, ?_, HRM, by simp; omega⟩
                · exact Toks.push (rv := .slice Option.none 0 0) HR1.out ((HOW.out.alloc _).alloc _) (fun k t rv a b => (HR3.out k t rv a b).below hba) (TRow.nil _ _ _ (by unfold maxLen; omega)) hown3 hg3
                · exact (HBK.out.trans (hba.mono HBK.out.size)).grown hg3 (by have := HBK.out.size; simp; omega) (fun k hk => (HOW.out.lt k hk).1)
              case measure => simp [intOf]; omega
    · obtain rfl : k = ws.length := by omega
      have HRG : Box (R = .good acc) := ⟨by rw [← HRk.out, List.drop_length]; rfl⟩
      obtain ⟨LA, LC, _, hlv, _⟩ := HT.out.isToks
      subst hlv
      have HTK := Lib.hid HT.out
      have hsz1 : w.heap.size + 1 ≤ w1.heap.size := by have := HB1.out.size; simp at this; omega
      have hbR := HB1.out.trans (HBK.out.mono hsz1)
      obtain ⟨r0, r1, r2, r3, r4⟩ := two_below hbR
      have hbE := below_result hbR
      have HBL := Lib.hid (cells_of_below hbR)
      clear hbR HRk HT
      go_wp2_with fail
      refine bodyPost_ret (v := .tuple #[.slice LA acc.length LC, .agg #[.int .i64 0, .int .i64 0], .int .i64 0]) (by simp [results, Tryz.results55, go_sem, r0, r1]) rfl ⟨?_, ?_⟩
      · rw [HRG.out]
        exact ⟨LA, LC, rfl, ((HTK.out.set (by omega) HBL.out (by decide) _).set (by omega) (HBL.out.set 0 _) (by decide) _).isToks⟩
      · exact (hbE.setCell (Nat.le_refl _) _).setCell (Nat.le_refl _) _

/-- lexer.Scan of any text. -/
theorem scan_any (s : List UInt8) (w : World) (hS : Std w) (hL : LenIs w) (hl : s.length ≤ 100000) :
    Calls Tryz.prog 55 #[.string ⟨s.toArray⟩] w fun e w' => ScanPost w' (scanRead s) e ∧ Below w.heap.size w w' := by
  unfold scanRead
  by_cases h : 65536 < s.length
  · rw [if_pos h]; exact scan_long s w h hl
  · rw [if_neg h]; exact scan_main s w hS hL (by omega)

end Go.Proofs.YtjgpjhaeoiddbaaGreatDoor
