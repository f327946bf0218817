/- A text of lines of words is read as the words' tokens: plain words. The words of a score's text, as the lexer reads them: plain words. The program's reader of a score over the tokens of a printed score: plain words. The plain law of ScorePrints: the printed text of a plan's score is read again. -/
import Derived.Test.YtphlodmdcmcjnaaGreatDoorGXPMCv
import Derived.Test.YtphlodmdcmcjnaaGreatDoorGQCv
import Derived.Test.YtphlodmdcmcjnaaGreatDoorGTHMCv
import Derived.Test.YtphlodmdcmcjnaaGreatDoorGXLCv
import Derived.Test.YtphlodmdcmcjnaaGreatDoorGXDMCv
import Derived.Test.YtphlodmdcmcjnaaGreatDoorGXKCv
namespace Go.Proofs.YtphlodmdcmcjnaaGreatDoor
open Go.RowKit Go.Lib

/-- A text that is read as one token where a blank, or nothing, follows. -/
structure WordRd (W : List UInt8) (t : Tok) : Prop where
  pos : 0 < W.length
  noBlank : blankB (W[0]?.getD 0) = false
  clean : ∀ c ∈ W, c ≠ 59 ∧ c ≠ 10
  next : ∀ r, (r = [] ∨ ∃ r', r = 32 :: r') → nextRead (W ++ r) = .good t.kind t.text t.num t.den t.row W.length

def joinB (ws : List (List UInt8)) : List UInt8 := Lib.join ws [32]
theorem joinB_one (a : List UInt8) : joinB [a] = a := Lib.join_one a [32]
theorem joinB_more (a b : List UInt8) (r : List (List UInt8)) : joinB (a :: b :: r) = a ++ 32 :: joinB (b :: r) := by
  unfold joinB
  rw [joinC_more]

theorem line_words (i : Nat) : ∀ (ws : List (List UInt8 × Tok)) (pre : List UInt8) (acc : List Tok) (g : Nat), (∀ w ∈ ws, WordRd w.1 w.2) → acc.length + ws.length < 4000 → (joinB (ws.map (·.1))).length < g →
    ∃ l, lineRead i (pre ++ joinB (ws.map (·.1))) g pre.length acc = .good l ∧ cores l = cores acc ++ cores (ws.map (·.2))
  | [], pre, acc, g, _, _, hg => ⟨acc, lineRead_end (by simp [joinB, Lib.join, List.intercalate]), by simp [cores]⟩
  | w :: [], pre, acc, g, hw, ha, hg => by
    obtain ⟨g, rfl⟩ : ∃ g', g = g' + 1 := ⟨g - 1, by omega⟩
    have h1 := hw w (by simp)
    have hp := h1.pos
    simp only [List.map_cons, List.map_nil, joinB_one] at hg ⊢
    have hlt : pre.length < (pre ++ w.1).length := by simp; omega
    have hat : (pre ++ w.1)[pre.length]? = w.1[0]? := by rw [List.getElem?_append_right (Nat.le_refl _), Nat.sub_self]
    have hdr : (pre ++ w.1).drop pre.length = w.1 ++ [] := by rw [List.drop_left' rfl, List.append_nil]
    have hn := h1.next [] (.inl rfl)
    rw [← hdr] at hn
    refine ⟨acc ++ [⟨w.2.kind, w.2.text, w.2.num, w.2.den, w.2.row, i + 1, pre.length + 1⟩], ?_, by unfold cores; rw [List.map_append]; rfl⟩
    rw [lineRead_more hlt (by rw [hat]; exact h1.noBlank) hn (by simp at ha; omega)]
    exact lineRead_end (by simp)
  | w :: w2 :: ws, pre, acc, g, hw, ha, hg => by
    obtain ⟨g, rfl⟩ : ∃ g', g = g' + 1 := ⟨g - 1, by omega⟩
    have h1 := hw w (by simp)
    have hp := h1.pos
    simp only [List.map_cons, joinB_more] at hg ⊢
    have hlen : (w.1 ++ 32 :: joinB (w2.1 :: List.map (·.1) ws)).length = w.1.length + 1 + (joinB (w2.1 :: List.map (·.1) ws)).length := by simp; omega
    rw [hlen] at hg
    have hlt : pre.length < (pre ++ (w.1 ++ 32 :: joinB (w2.1 :: List.map (·.1) ws))).length := by simp; omega
    have hat : (pre ++ (w.1 ++ 32 :: joinB (w2.1 :: List.map (·.1) ws)))[pre.length]? = w.1[0]? := by
      rw [List.getElem?_append_right (Nat.le_refl _), Nat.sub_self, List.getElem?_append_left hp]
    have hdr : (pre ++ (w.1 ++ 32 :: joinB (w2.1 :: List.map (·.1) ws))).drop pre.length = w.1 ++ 32 :: joinB (w2.1 :: List.map (·.1) ws) := List.drop_left' rfl
    have hn := h1.next (32 :: joinB (w2.1 :: List.map (·.1) ws)) (.inr ⟨_, rfl⟩)
    rw [← hdr] at hn
    rw [lineRead_more hlt (by rw [hat]; exact h1.noBlank) hn (by simp at ha; omega)]
    obtain ⟨g, rfl⟩ : ∃ g', g = g' + 1 := ⟨g - 1, by omega⟩
    have hlt2 : pre.length + w.1.length < (pre ++ (w.1 ++ 32 :: joinB (w2.1 :: List.map (·.1) ws))).length := by simp
    have hat2 : (pre ++ (w.1 ++ 32 :: joinB (w2.1 :: List.map (·.1) ws)))[pre.length + w.1.length]? = some 32 := by
      rw [List.getElem?_append_right (by omega), Nat.add_sub_cancel_left, List.getElem?_append_right (Nat.le_refl _), Nat.sub_self]
      rfl
    rw [lineRead_blank hlt2 (by rw [hat2]; rfl)]
    obtain ⟨l, h2, h3⟩ := line_words i (w2 :: ws) (pre ++ (w.1 ++ [32])) (acc ++ [⟨w.2.kind, w.2.text, w.2.num, w.2.den, w.2.row, i + 1, pre.length + 1⟩]) g (fun x hx => hw x (by simp [hx])) (by simp at ha ⊢; omega) (by simp only [List.map_cons]; omega)
    refine ⟨l, ?_, ?_⟩
    · have e1 : pre ++ (w.1 ++ [32]) ++ joinB (List.map (·.1) (w2 :: ws)) = pre ++ (w.1 ++ 32 :: joinB (w2.1 :: List.map (·.1) ws)) := by simp
      have e2 : (pre ++ (w.1 ++ [32])).length = pre.length + w.1.length + 1 := by simp; omega
      rw [e1, e2] at h2
      exact h2
    · rw [h3]
      unfold cores
      rw [List.map_append, List.map_cons, List.append_assoc]
      rfl

/-- A line is words; its tokens end with an end. -/
def lnToks (ws : List (List UInt8 × Tok)) : List Tok := ws.map (·.2) ++ [⟨6, [10], [], [], [], 0, 0⟩]
def lnText (ws : List (List UInt8 × Tok)) : List UInt8 := joinB (ws.map (·.1))
theorem joinB_clean : ∀ (ws : List (List UInt8)), (∀ w ∈ ws, ∀ c ∈ w, c ≠ 59 ∧ c ≠ 10) → ∀ c ∈ joinB ws, c ≠ 59 ∧ c ≠ 10
  | [], _, c, h => by simp [joinB, Lib.join, List.intercalate] at h
  | [a], hw, c, h => hw a (by simp) c (by rwa [joinB_one] at h)
  | a :: b :: r, hw, c, h => by
    rw [joinB_more] at h
    rcases List.mem_append.1 h with h | h
    · exact hw a (by simp) c h
    · rcases List.mem_cons.1 h with rfl | h
      · exact ⟨by decide, by decide⟩
      · exact joinB_clean (b :: r) (fun w hw2 => hw w (by simp [hw2])) c h
theorem cutSemi_clean : ∀ (s : List UInt8), (∀ c ∈ s, c ≠ 59) → cutSemi s = s
  | [], _ => rfl
  | c :: t, h => by
    have h0 : (c != 59) = true := by simpa using h c (by simp)
    have ih := cutSemi_clean t (fun d hd => h d (by simp [hd]))
    unfold cutSemi at ih ⊢
    rw [List.takeWhile_cons, if_pos h0, ih]
theorem lines_words : ∀ (ls : List (List (List UInt8 × Tok))) (i : Nat) (acc : List Tok), (∀ ws ∈ ls, ws ≠ [] ∧ ∀ w ∈ ws, WordRd w.1 w.2) → acc.length + ((ls.map lnToks).flatten).length < 4000 →
    ∃ l, linesRead i (ls.map lnText ++ [[]]) acc = .good l ∧ cores l = cores acc ++ cores ((ls.map lnToks).flatten)
  | [], i, acc, _, _ => by
    refine ⟨acc, ?_, by simp [cores]⟩
    rw [List.map_nil, List.nil_append, linesRead_same (l := acc) (lineRead_end (by simp [cutSemi])) rfl]
    rfl
  | ws :: ls, i, acc, hw, ha => by
    have hws := hw ws (by simp)
    have hlt : (lnToks ws).length = ws.length + 1 := by unfold lnToks; simp
    rw [List.map_cons, List.flatten_cons, List.length_append, hlt] at ha
    have hcl : ∀ c ∈ lnText ws, c ≠ 59 ∧ c ≠ 10 := joinB_clean _ (fun w hwm => by
      obtain ⟨x, hx, rfl⟩ := List.mem_map.1 hwm
      exact (hws.2 x hx).clean)
    have hcs : cutSemi (lnText ws) = lnText ws := cutSemi_clean _ (fun c hc => (hcl c hc).1)
    obtain ⟨l, h1, h2⟩ := line_words i ws [] acc ((lnText ws).length + 1) hws.2 (by omega) (by unfold lnText joinB; omega)
    have hll : l.length = acc.length + ws.length := by
      have := congrArg List.length h2
      simpa [cores] using this
    have hpos : 0 < ws.length := List.length_pos_iff.2 hws.1
    rw [List.map_cons, List.cons_append, linesRead_more (l := l) (by rw [hcs]; exact h1) (by omega) (by omega)]
    obtain ⟨l2, h3, h4⟩ := lines_words ls (i + 1) (l ++ [endTok i (lnText ws)]) (fun x hx => hw x (by simp [hx])) (by simp; simp at ha; omega)
    refine ⟨l2, h3, ?_⟩
    rw [h4, List.map_cons, List.flatten_cons]
    unfold cores at *
    rw [List.map_append, h2, List.map_append]
    unfold lnToks
    rw [List.map_append]
    simp only [List.append_assoc]
    rfl

/-- The text of lines. -/
def txtOf (ls : List (List (List UInt8 × Tok))) : List UInt8 := (ls.map fun ws => lnText ws ++ [10]).flatten
theorem txtOf_join : ∀ (ls : List (List (List UInt8 × Tok))), txtOf ls = Lib.join (ls.map lnText ++ [[]]) [10]
  | [] => by rw [List.map_nil, List.nil_append, Lib.join_one]; rfl
  | [a] => by
    have e : Lib.join (List.map lnText [a] ++ [[]]) [10] = lnText a ++ 10 :: [] := by
      show Lib.join [lnText a, []] [10] = _
      rw [joinC_more, Lib.join_one]
    rw [e]
    unfold txtOf
    simp
  | a :: b :: r => by
    have ih := txtOf_join (b :: r)
    rw [List.map_cons, List.cons_append]
    rw [List.map_cons, List.cons_append] at ih ⊢
    rw [joinC_more, ← ih]
    unfold txtOf
    simp
theorem scan_lines (ls : List (List (List UInt8 × Tok))) (hw : ∀ ws ∈ ls, ws ≠ [] ∧ ∀ w ∈ ws, WordRd w.1 w.2) (ha : ((ls.map lnToks).flatten).length < 4000) (hl : (txtOf ls).length ≤ 65536) :
    ∃ l, scanRead (txtOf ls) = .good l ∧ cores l = cores ((ls.map lnToks).flatten) := by
  unfold scanRead
  rw [if_neg (by omega), txtOf_join, cutAll_join 10 _ (by simp) (fun l hl c hc => by
    rcases List.mem_append.1 hl with h | h
    · obtain ⟨ws, hws, rfl⟩ := List.mem_map.1 h
      exact (joinB_clean _ (fun w hwm => by
        obtain ⟨x, hx, rfl⟩ := List.mem_map.1 hwm
        exact ((hw ws hws).2 x hx).clean) c hc).2
    · simp at h; subst h; simp at hc)]
  obtain ⟨l, h1, h2⟩ := lines_words ls 0 [] hw (by simpa using ha)
  exact ⟨l, h1, by simpa [cores] using h2⟩

end Go.Proofs.YtphlodmdcmcjnaaGreatDoor

namespace Go.Proofs.YtphlodmdcmcjnaaGreatDoor
open Go.RowKit Go.Lib

theorem runLen_ext {p : UInt8 → Bool} (hp : p 32 = false) (r : List UInt8) : ∀ s, runLen p (s ++ 32 :: r) = runLen p s
  | [] => by simp [runLen, hp]
  | c :: t => by simp only [List.cons_append, runLen, runLen_ext hp r t]
theorem indexByte_ext {c : UInt8} (r : List UInt8) : ∀ s, 0 ≤ Lib.indexByte s c → Lib.indexByte (s ++ r) c = Lib.indexByte s c
  | [], h => by simp [Lib.indexByte] at h
  | x :: t, h => by
    simp only [List.cons_append, Lib.indexByte] at h ⊢
    split
    · rfl
    · rename_i hx
      rw [if_neg hx] at h
      have h0 : 0 ≤ Lib.indexByte t c := by
        split at h
        · omega
        · rename_i h1
          have := indexByte_bd t c
          simp at h1
          omega
      rw [indexByte_ext r t h0]
theorem nextRead_ext {s r : List UInt8} {kd : Int} {t n d : List UInt8} {x : List Int} {m : Nat} (h0 : 0 < s.length) (h : nextRead s = .good kd t n d x m) : nextRead (s ++ 32 :: r) = .good kd t n d x m := by
  rw [← h]
  obtain ⟨c, u, rfl⟩ : ∃ c u, s = c :: u := by cases s with | nil => simp at h0 | cons c u => exact ⟨c, u, rfl⟩
  have hh : ((c :: u) ++ 32 :: r)[0]?.getD 0 = (c :: u)[0]?.getD 0 := rfl
  have htk : ∀ {n : Nat}, n ≤ (c :: u).length → ((c :: u) ++ 32 :: r).take n = (c :: u).take n := fun h => List.take_append_of_le_length h
  have hw : wordRead ((c :: u) ++ 32 :: r) = wordRead (c :: u) := by
    unfold wordRead
    rw [runLen_ext (by decide), htk (runLen_le _ _)]
  have hnl : numLen ((c :: u) ++ 32 :: r) = numLen (c :: u) := by
    unfold numLen
    have e : List.drop 1 ((c :: u) ++ 32 :: r) = u ++ 32 :: r := rfl
    rw [e, runLen_ext (by decide)]
    rfl
  have hnb : numLen (c :: u) ≤ (c :: u).length := by unfold numLen; have := runLen_le numB ((c :: u).drop 1); simp at this ⊢; omega
  have hn : numRead ((c :: u) ++ 32 :: r) = numRead (c :: u) := by
    unfold numRead
    rw [hnl, htk hnb]
  have hbe : brackEnd ((c :: u) ++ 32 :: r) = brackEnd (c :: u) := rfl
  have hbk : brackKind ((c :: u) ++ 32 :: r) = brackKind (c :: u) := rfl
  have hd : (decide (1 < ((c :: u) ++ 32 :: r).length) && digB (((c :: u) ++ 32 :: r)[1]?.getD 0)) = (decide (1 < (c :: u).length) && digB ((c :: u)[1]?.getD 0)) := by
    cases u with
    | nil =>
      show (decide (1 < r.length + 1 + 1) && digB 32) = (decide (1 < 1) && digB 0)
      rw [show digB 32 = false from by decide, Bool.and_false]
      rfl
    | cons d u => simp
  have ht : List.take 1 ((c :: u) ++ 32 :: r) = List.take 1 (c :: u) := rfl
  unfold nextRead at h ⊢
  rw [hh, hw, hn, hd, ht]
  split
  · rfl
  · split
    · rfl
    · split
      · rename_i h1 h2 h3
        rw [if_neg h1, if_neg h2, if_pos h3] at h
        unfold brackRead at h ⊢
        split at h
        · cases h
        · rename_i hb
          have hi : 0 ≤ Lib.indexByte (c :: u) (brackEnd (c :: u)) := by
            unfold brackLen at hb
            omega
          have hbl : brackLen ((c :: u) ++ 32 :: r) = brackLen (c :: u) := by unfold brackLen; rw [hbe, indexByte_ext _ _ hi]
          have hbb : brackLen (c :: u) ≤ (c :: u).length := by unfold brackLen; have := indexByte_bd (c :: u) (brackEnd (c :: u)); omega
          rw [hbl, hbk, htk hbb]
      · rfl
theorem WordRd.of {W : List UInt8} {t : Tok} (h0 : 0 < W.length) (hb : blankB (W[0]?.getD 0) = false) (hc : W.all (fun c => c != 59 && c != 10) = true) (h : nextRead W = .good t.kind t.text t.num t.den t.row W.length) : WordRd W t :=
  ⟨h0, hb, fun c hm => by
    have := List.all_eq_true.1 hc c hm
    simp at this
    exact this, fun r hr => by
    rcases hr with rfl | ⟨r', rfl⟩
    · rw [List.append_nil]; exact h
    · exact nextRead_ext h0 h⟩

/-- The tokens of a score's words. -/
def tokW (s : List UInt8) : Tok := ⟨1, s, [], [], [], 0, 0⟩
def tokN (n d : List UInt8) : Tok := ⟨2, ratText n d, n, d, [], 0, 0⟩
def tokK (x : List Int) : Tok := ⟨3, ketT x, [], [], x, 0, 0⟩
def tokC : Tok := ⟨5, [58], [], [], [], 0, 0⟩
theorem rd_primes : WordRd [112, 114, 105, 109, 101, 115] (tokW [112, 114, 105, 109, 101, 115]) := .of (by decide) (by decide) (by decide) (by kernel_rfl)
theorem rd_voice : WordRd [118, 111, 105, 99, 101] (tokW [118, 111, 105, 99, 101]) := .of (by decide) (by decide) (by decide) (by kernel_rfl)
theorem rd_colon : WordRd [58] tokC := .of (by decide) (by decide) (by decide) (by kernel_rfl)
theorem rd_name {k : Nat} (hk : k < 3) : WordRd (nameOf k) (tokW (nameOf k)) := by
  match k, hk with
  | 0, _ => exact .of (by decide) (by decide) (by decide) (by kernel_rfl)
  | 1, _ => exact .of (by decide) (by decide) (by decide) (by kernel_rfl)
  | 2, _ => exact .of (by decide) (by decide) (by decide) (by kernel_rfl)
/-- A right reading of a number, as a test. -/
def numOkB (W n d : List UInt8) : Bool := decide (0 < W.length) && (!blankB (W[0]?.getD 0)) && W.all (fun c => c != 59 && c != 10) && (match nextRead W with
  | .good kd t n' d' x m => kd == 2 && t == W && n' == n && d' == d && x == [] && m == W.length
  | .bad _ => false)
theorem numOkB_rd {n d : List UInt8} (h : numOkB (ratText n d) n d = true) : WordRd (ratText n d) (tokN n d) := by
  unfold numOkB at h
  simp only [Bool.and_eq_true] at h
  obtain ⟨⟨⟨h1, h2⟩, h3⟩, h4⟩ := h
  cases e : nextRead (ratText n d) with
  | bad z => rw [e] at h4; cases h4
  | good kd t n' d' x m =>
    rw [e] at h4
    simp at h4
    obtain ⟨⟨⟨⟨⟨a, b⟩, c⟩, f⟩, g⟩, i⟩ := h4
    subst a b c f g i
    exact .of (by simpa using h1) (by simpa using h2) h3 e
set_option maxRecDepth 100000 in
theorem beats_num : ∀ k : Fin 24, numOkB (ratText (t12n (1 + k.val)) (t12d (1 + k.val))) (t12n (1 + k.val)) (t12d (1 + k.val)) = true := by decide +kernel
set_option maxRecDepth 100000 in
theorem prims_num : ∀ k : Fin 98, numOkB (ratText (itoa (k.val : Int)) [49]) (itoa (k.val : Int)) [49] = true := by decide +kernel
theorem rd_beat (n : Nat) : WordRd (ratText (t12n (1 + n % 24)) (t12d (1 + n % 24))) (tokN (t12n (1 + n % 24)) (t12d (1 + n % 24))) := numOkB_rd (beats_num ⟨n % 24, Nat.mod_lt _ (by decide)⟩)
theorem rd_prime {z : Int} (h0 : 0 ≤ z) (h : z ≤ 97) : WordRd (itoa z) (tokN (itoa z) [49]) := by
  obtain ⟨k, rfl⟩ : ∃ k : Nat, z = k := ⟨z.toNat, by omega⟩
  have := numOkB_rd (prims_num ⟨k, by omega⟩)
  have e : ratText (itoa ((k : Nat) : Int)) [49] = itoa (k : Int) := rfl
  rw [e] at this
  exact this
/-- A small number as a word of a row. -/
def canB (z : Int) : Bool := canW (itoa z) && valW (itoa z) == z && (itoa z).all (fun c => c != 32 && c != 62 && c != 59 && c != 10) && !(itoa z).isEmpty
set_option maxRecDepth 100000 in
theorem small_can : ∀ k : Fin 19, canB ((k.val : Int) - 9) = true := by decide +kernel
theorem can_of {z : Int} (h1 : -9 ≤ z) (h2 : z ≤ 9) : canB z = true := by
  have h := small_can ⟨(z + 9).toNat, by omega⟩
  have e : (((z + 9).toNat : Nat) : Int) - 9 = z := by omega
  dsimp only at h
  rw [e] at h
  exact h
theorem join_all {p : UInt8 → Bool} (hp : p 32 = true) : ∀ {ws : List (List UInt8)}, (∀ w ∈ ws, w.all p = true) → (Lib.join ws [32]).all p = true
  | [], _ => rfl
  | [a], h => by rw [Lib.join_one]; exact h a (by simp)
  | a :: b :: r, h => by
    rw [joinC_more, List.all_append, List.all_cons, hp, h a (by simp), join_all hp (fun w hw => h w (by simp [hw]))]
    rfl
theorem indexByte_free {c : UInt8} : ∀ {s : List UInt8} (r : List UInt8), s.all (fun d => d != c) = true → Lib.indexByte (s ++ c :: r) c = s.length
  | [], r, _ => by simp [Lib.indexByte]
  | x :: t, r, h => by
    rw [List.all_cons, Bool.and_eq_true] at h
    have ih := indexByte_free r h.2
    have hx : (x == c) = false := by simpa using h.1
    have hne : ((t.length : Int) == -1) = false := by rw [beq_eq_false_iff_ne]; omega
    rw [List.cons_append, Lib.indexByte, ih, hx, hne]
    simp
theorem rowRead_ket {x : List Int} (h0 : x ≠ []) (h64 : x.length ≤ 60) (hx : ∀ z ∈ x, -9 ≤ z ∧ z ≤ 9) : rowRead (ketT x) = .good x true ∧ (rowTxt x).all (fun c => c != 62 && c != 59 && c != 10) = true := by
  have hcan : ∀ z ∈ x, canW (itoa z) = true ∧ valW (itoa z) = z ∧ (itoa z).all (fun c => c != 32 && c != 62 && c != 59 && c != 10) = true ∧ itoa z ≠ [] := fun z hz => by
    have h := can_of (hx z hz).1 (hx z hz).2
    unfold canB at h
    simp only [Bool.and_eq_true] at h
    obtain ⟨⟨⟨h1, h2⟩, h3⟩, h4⟩ := h
    exact ⟨h1, by simpa using h2, h3, by simpa using h4⟩
  have hwf : ∀ l ∈ words x, ∀ c ∈ l, c ≠ 32 := fun l hl c hc => by
    obtain ⟨z, hz, rfl⟩ := List.mem_map.1 hl
    have := List.all_eq_true.1 (hcan z hz).2.2.1 c hc
    simp at this
    exact this.1.1.1
  have hall : (rowTxt x).all (fun c => c != 62 && c != 59 && c != 10) = true := by
    refine join_all (by decide) fun w hw => ?_
    obtain ⟨z, hz, rfl⟩ := List.mem_map.1 hw
    rw [List.all_eq_true]
    intro c hc
    have := List.all_eq_true.1 (hcan z hz).2.2.1 c hc
    simp at this ⊢
    exact ⟨⟨this.1.1.2, this.1.2⟩, this.2⟩
  refine ⟨?_, hall⟩
  have hwn : words x ≠ [] := by unfold words; simpa using h0
  have hcut : cutAll 32 (rowTxt x) = words x := cutAll_join 32 _ hwn hwf
  have hne : rowTxt x ≠ [] := by
    intro e
    rw [e] at hcut
    have : words x = [[]] := by rw [← hcut]; rfl
    obtain ⟨z, r, rfl⟩ : ∃ z r, x = z :: r := by cases x with | nil => exact absurd rfl h0 | cons z r => exact ⟨z, r, rfl⟩
    unfold words at this
    rw [List.map_cons] at this
    injection this with h1 _
    exact (hcan z (by simp)).2.2.2 h1
  have hbd : ∀ k, k < x.length → -1000000000 ≤ x[k]?.getD 0 ∧ x[k]?.getD 0 ≤ 1000000000 := fun k hk => by
    rw [List.getElem?_eq_getElem hk]
    have := hx _ (List.getElem_mem hk)
    simp
    omega
  have hlen := rowTxt_len (x := x) (by omega) hbd
  have hk91 : Lib.hasPrefix (ketT x) [91] = true := by unfold ketT Lib.hasPrefix; simp
  have htp : Lib.trimPrefix (ketT x) [91] = rowTxt x ++ [62] := by unfold Lib.trimPrefix; rw [if_pos hk91]; rfl
  have hsf : Lib.hasSuffix (rowTxt x ++ [62]) [62] = true := by unfold Lib.hasSuffix; simp
  have hts : Lib.trimSuffix (rowTxt x ++ [62]) [62] = rowTxt x := by unfold Lib.trimSuffix; rw [if_pos hsf]; simp
  have hchk : rowChk x = 0 := by
    unfold rowChk
    rw [if_neg]
    rw [not_or]
    refine ⟨by omega, ?_⟩
    rw [Bool.not_eq_true, List.any_eq_false]
    intro z hz
    have := hx z hz
    unfold fitsB
    simp
    omega
  have hval : (words x).map valW = x := by
    unfold words
    rw [List.map_map]
    conv => rhs; rw [← List.map_id x]
    exact List.map_congr_left fun z hz => (hcan z hz).2.1
  unfold rowRead
  rw [if_neg (by unfold ketT; simp; omega), if_pos hk91, htp]
  unfold endRead
  have e62 : (if (true : Bool) then (62 : UInt8) else 93) = 62 := rfl
  rw [e62, if_pos hsf, hts]
  unfold innerRead
  rw [if_neg (by simpa using hne), hcut, if_neg, hval, if_pos hchk]
  rw [Bool.not_eq_true, List.any_eq_false]
  intro l hl
  obtain ⟨z, hz, rfl⟩ := List.mem_map.1 hl
  rw [(hcan z hz).1]
  decide
theorem rd_ket {x : List Int} (h0 : x ≠ []) (h64 : x.length ≤ 60) (hx : ∀ z ∈ x, -9 ≤ z ∧ z ≤ 9) : WordRd (ketT x) (tokK x) := by
  obtain ⟨hr, hall⟩ := rowRead_ket h0 h64 hx
  have hl : (ketT x).length = (rowTxt x).length + 2 := by unfold ketT; simp
  have hall62 : (91 :: rowTxt x).all (fun d => d != 62) = true := by
    rw [List.all_cons, Bool.and_eq_true]
    refine ⟨by decide, ?_⟩
    rw [List.all_eq_true]
    intro c hc
    have := List.all_eq_true.1 hall c hc
    simp at this ⊢
    exact this.1.1
  have hi : Lib.indexByte (ketT x) 62 = ((rowTxt x).length + 1 : Nat) := by
    have := indexByte_free (c := 62) [] hall62
    simpa [ketT] using this
  refine .of (by omega) rfl ?_ ?_
  · unfold ketT
    rw [List.cons_append, List.all_cons, List.all_append]
    have h2 : (rowTxt x).all (fun c => c != 59 && c != 10) = true := by
      rw [List.all_eq_true]
      intro c hc
      have := List.all_eq_true.1 hall c hc
      simp at this ⊢
      exact ⟨this.1.2, this.2⟩
    rw [h2]
    rfl
  · have hbl : brackLen (ketT x) = (ketT x).length := by
      unfold brackLen
      have : brackEnd (ketT x) = 62 := rfl
      rw [this, hi, hl]
      omega
    have hbr : brackRead (ketT x) = .good 3 (ketT x) [] [] x (ketT x).length := by
      unfold brackRead
      rw [hbl, if_neg (by omega), List.take_length, hr]
      rfl
    have hn : nextRead (ketT x) = brackRead (ketT x) := by
      unfold nextRead
      have h1 : (ketT x)[0]?.getD 0 = 91 := rfl
      rw [h1, if_neg (by decide), if_neg (by rw [show digB 91 = false from by decide, show ((91 : UInt8) == 45) = false from by decide, Bool.false_and]; decide), if_pos (.inl rfl)]
    rw [hn, hbr]
    rfl

end Go.Proofs.YtphlodmdcmcjnaaGreatDoor

namespace Go.Proofs.YtphlodmdcmcjnaaGreatDoor
open Go.RowKit Go.Lib

/-! ### Only the tokens without their places matter for what is read -/
section
variable {l T : List Tok}
theorem core_at (h : cores l = cores T) (k : Nat) : (l[k]?).map Tok.core = (T[k]?).map Tok.core := by
  have := congrArg (·[k]?) h
  simpa [cores] using this
theorem kindAt_core (h : cores l = cores T) (k : Nat) (q : Int) : kindAt l k q = kindAt T k q := by
  have := core_at h k
  unfold kindAt
  cases h1 : l[k]? with
  | none => cases h2 : T[k]? with
    | none => rfl
    | some u => rw [h1, h2] at this; cases this
  | some t => cases h2 : T[k]? with
    | none => rw [h1, h2] at this; cases this
    | some u =>
      rw [h1, h2] at this
      injection this with this
      have h3 : t.kind = u.kind := congrArg (·.1) this
      dsimp only
      rw [h3]
theorem textAt_core (h : cores l = cores T) (k : Nat) (q : Int) (s : List UInt8) : textAt l k q s = textAt T k q s := by
  have := core_at h k
  unfold textAt
  cases h1 : l[k]? with
  | none => cases h2 : T[k]? with
    | none => rfl
    | some u => rw [h1, h2] at this; cases this
  | some t => cases h2 : T[k]? with
    | none => rw [h1, h2] at this; cases this
    | some u =>
      rw [h1, h2] at this
      injection this with this
      have h3 : t.kind = u.kind := congrArg (·.1) this
      have h4 : t.text = u.text := congrArg (·.2.1) this
      dsimp only
      rw [h3, h4]
theorem tokAt_core (h : cores l = cores T) (k : Nat) : (tokAt l k).core = (tokAt T k).core := by
  have := core_at h k
  unfold tokAt
  cases h1 : l[k]? with
  | none => cases h2 : T[k]? with
    | none => rfl
    | some u => rw [h1, h2] at this; cases this
  | some t => cases h2 : T[k]? with
    | none => rw [h1, h2] at this; cases this
    | some u =>
      rw [h1, h2] at this
      injection this with this
theorem tok_text (h : cores l = cores T) (k : Nat) : (tokAt l k).text = (tokAt T k).text := congrArg (·.2.1) (tokAt_core h k)
theorem tok_num (h : cores l = cores T) (k : Nat) : (tokAt l k).num = (tokAt T k).num := congrArg (·.2.2.1) (tokAt_core h k)
theorem tok_den (h : cores l = cores T) (k : Nat) : (tokAt l k).den = (tokAt T k).den := congrArg (·.2.2.2.1) (tokAt_core h k)
theorem ntP_core {p : List Int} {a b : Tok} (h : a.core = b.core) : ntP p a = ntP p b := by
  have h1 : a.kind = b.kind := congrArg (·.1) h
  have h2 : a.num = b.num := congrArg (·.2.2.1) h
  have h3 : a.den = b.den := congrArg (·.2.2.2.1) h
  have h4 : a.row = b.row := congrArg (·.2.2.2.2) h
  unfold ntP
  rw [h1, h2, h3, h4]
theorem cores_lenT (h : cores l = cores T) : l.length = T.length := cores_len h
def okO {X : Type} : Except Flt X → Option X
  | .ok x => some x
  | .error _ => none
theorem prRun_core (h : cores l = cores T) : ∀ (f k : Nat) (acc : List Int), okO (prRun smP l f k acc) = okO (prRun smP T f k acc)
  | 0, _, _ => rfl
  | f + 1, k, acc => by
    rw [prRun_step, prRun_step, kindAt_core h, tok_num h, tok_den h]
    split
    · cases smP (tokAt T k).num (tokAt T k).den with
      | none => rfl
      | some n => exact prRun_core h f (k + 1) _
    · rfl
theorem ntRun_core (h : cores l = cores T) (p : List Int) : ∀ (f k : Nat) (acc : List (List Int)), okO (ntRun ntP l p f k acc) = okO (ntRun ntP T p f k acc)
  | 0, _, _ => rfl
  | f + 1, k, acc => by
    rw [ntRun_step, ntRun_step, kindAt_core h, kindAt_core h, ntP_core (tokAt_core h k)]
    split
    · split
      · exact ntRun_core h p f (k + 1) _
      · rfl
    · rfl
theorem okO_some {X : Type} {a : Except Flt X} {x : X} (h : okO a = some x) : a = .ok x := by
  cases a with
  | error e => cases h
  | ok y => injection h with h; rw [h]
theorem ok_of {X : Type} {a b : Except Flt X} {x : X} (h : okO a = okO b) (hb : b = .ok x) : a = .ok x := okO_some (by rw [h, hb]; rfl)
theorem prP_core (h : cores l = cores T) {x : Nat × List Int} (hx : prP smP primeErr T = .ok x) : prP smP primeErr l = .ok x := by
  unfold prP at hx ⊢
  rw [textAt_core h, cores_lenT h]
  split
  · rename_i ht
    rw [if_pos ht] at hx
    cases hr : prRun smP T (T.length + 1) 1 [] with
    | error e => rw [hr] at hx; cases hx
    | ok y =>
      rw [ok_of (prRun_core h _ _ _) hr]
      rw [hr] at hx
      obtain ⟨k, ps⟩ := y
      dsimp only at hx ⊢
      rw [kindAt_core h]
      split
      · rename_i h6
        rw [if_pos h6] at hx
        split
        · rename_i hp
          rw [if_pos hp] at hx
          exact hx
        · rename_i hp
          rw [if_neg hp] at hx
          cases hx
      · rename_i h6
        rw [if_neg h6] at hx
        cases hx
  · rename_i ht
    rw [if_neg ht] at hx
    cases hx
theorem vcP_core (h : cores l = cores T) {k : Nat} {x : Nat × Vc} (hx : vcP T k = .ok x) : vcP l k = .ok x := by
  unfold vcP at hx ⊢
  rw [kindAt_core h, kindAt_core h, tok_text h]
  split
  · rename_i h1
    rw [if_pos h1] at hx
    split
    · rename_i h2
      rw [if_pos h2] at hx
      exact hx
    · rename_i h2
      rw [if_neg h2] at hx
      cases hx
  · rename_i h1
    rw [if_neg h1] at hx
    cases hx
theorem evP_core (h : cores l = cores T) {c : Bool} {p : List Int} {k : Nat} {x : Nat × Ev} (hx : evP ntP T c p k = .ok x) : evP ntP l c p k = .ok x := by
  unfold evP at hx ⊢
  split
  · rename_i hc
    rw [if_pos hc] at hx
    rw [cores_lenT h]
    cases hr : ntRun ntP T p (T.length + 1) (k + 2) [] with
    | error e => rw [hr] at hx; cases hx
    | ok y =>
      rw [ok_of (ntRun_core h p _ _ _) hr]
      rw [hr] at hx
      obtain ⟨j, ns⟩ := y
      dsimp only at hx ⊢
      rw [kindAt_core h, tok_num h, tok_den h]
      split
      · rename_i h6
        rw [if_pos h6] at hx
        exact hx
      · rename_i h6
        rw [if_neg h6] at hx
        cases hx
  · rename_i hc
    rw [if_neg hc] at hx
    cases hx
theorem lineP_core (h : cores l = cores T) {p : List Int} {vs : List Vc} {k : Nat} {x : Nat × List Vc} (hx : lineP ntP T p vs k = .ok x) : lineP ntP l p vs k = .ok x := by
  have ha : accAt l (k + 1) = accAt T (k + 1) := by unfold accAt; rw [textAt_core h, textAt_core h]
  unfold lineP at hx ⊢
  rw [textAt_core h, kindAt_core h, ha]
  split
  · rename_i h1
    rw [if_pos h1] at hx
    cases hv : vcP T k with
    | error e => rw [hv] at hx; cases hx
    | ok y =>
      rw [vcP_core h hv]
      rw [hv] at hx
      exact hx
  · rename_i h1
    rw [if_neg h1] at hx
    split
    · rename_i h2
      rw [if_pos h2] at hx
      cases hx
    · rename_i h2
      rw [if_neg h2] at hx
      split
      · rename_i h3
        rw [if_pos h3] at hx
        cases hv : evP ntP T (accAt T (k + 1)) p k with
        | error e => rw [hv] at hx; cases hx
        | ok y =>
          rw [evP_core h hv]
          rw [hv] at hx
          exact hx
      · rename_i h3
        rw [if_neg h3] at hx
        cases hx
theorem linesP_core (h : cores l = cores T) {p : List Int} : ∀ (f k : Nat) (vs vs' : List Vc), linesP ntP T p f k vs = .ok vs' → linesP ntP l p f k vs = .ok vs'
  | 0, _, _, _, hx => hx
  | f + 1, k, vs, vs', hx => by
    by_cases hk : k < T.length
    · rw [linesP_step hk] at hx
      rw [linesP_step (by rw [cores_lenT h]; exact hk)]
      cases hl : lineP ntP T p vs k with
      | error e => rw [hl] at hx; cases hx
      | ok y =>
        rw [lineP_core h hl]
        rw [hl] at hx
        obtain ⟨j, vs1⟩ := y
        exact linesP_core h f j vs1 vs' hx
    · rw [linesP_end (by omega)] at hx
      rw [linesP_end (by rw [cores_lenT h]; omega)]
      exact hx
theorem readP_core (h : cores l = cores T) {s : Sc} (hx : readP smP primeErr ntP T = .ok s) : readP smP primeErr ntP l = .ok s := by
  unfold readP at hx ⊢
  rw [cores_lenT h]
  split
  · rename_i h0
    rw [if_pos h0] at hx
    cases hx
  · rename_i h0
    rw [if_neg h0] at hx
    cases hp : prP smP primeErr T with
    | error e => rw [hp] at hx; cases hx
    | ok y =>
      rw [prP_core h hp]
      rw [hp] at hx
      obtain ⟨k, ps⟩ := y
      dsimp only at hx ⊢
      cases hl : linesP ntP T ps (T.length + 1) k [] with
      | error e => rw [hl] at hx; cases hx
      | ok vs =>
        rw [linesP_core h _ _ _ _ hl]
        rw [hl] at hx
        exact hx
end

/-! ### What is read of the tokens of a printed score -/
section
variable {T : List Tok}
theorem drop_at0 {k : Nat} {t : Tok} {R : List Tok} (h : T.drop k = t :: R) : T[k]? = some t := by
  have := congrArg (·[0]?) h
  simpa using this
theorem drop_next {k : Nat} {t : Tok} {R : List Tok} (h : T.drop k = t :: R) : T.drop (k + 1) = R := by
  rw [← List.drop_drop, h]
  rfl
theorem kind_here {k : Nat} {t : Tok} {R : List Tok} (h : T.drop k = t :: R) (q : Int) : kindAt T k q = (t.kind == q) := by
  unfold kindAt
  rw [drop_at0 h]
theorem text_here {k : Nat} {t : Tok} {R : List Tok} (h : T.drop k = t :: R) (q : Int) (s : List UInt8) : textAt T k q s = (t.kind == q && t.text == s) := by
  unfold textAt
  rw [drop_at0 h]
theorem tok_here {k : Nat} {t : Tok} {R : List Tok} (h : T.drop k = t :: R) : tokAt T k = t := by
  unfold tokAt
  rw [drop_at0 h]
  rfl
theorem lt_here {k : Nat} {t : Tok} {R : List Tok} (h : T.drop k = t :: R) : k < T.length := (List.getElem?_eq_some_iff.1 (drop_at0 h)).1
def tokE : Tok := ⟨6, [10], [], [], [], 0, 0⟩
theorem prRun_read : ∀ (ps : List Int) (f k : Nat) (acc : List Int) (R : List Tok), T.drop k = (ps.map fun z => tokN (itoa z) [49]) ++ tokE :: R → (∀ z ∈ ps, (decDigits z.natAbs).length ≤ 18) → ps.length < f → prRun smP T f k acc = .ok (k + ps.length, acc ++ ps)
  | [], f, k, acc, R, h, _, hf => by
    obtain ⟨f, rfl⟩ : ∃ f', f = f' + 1 := ⟨f - 1, by omega⟩
    rw [prRun_step, kind_here h]
    simp [tokE]
  | z :: ps, f, k, acc, R, h, hz, hf => by
    obtain ⟨f, rfl⟩ : ∃ f', f = f' + 1 := ⟨f - 1, by omega⟩
    rw [List.map_cons, List.cons_append] at h
    have hs : smP (tokN (itoa z) [49]).num (tokN (itoa z) [49]).den = some z := by
      have e1 : itoa 1 = [49] := by kernel_rfl
      show smP (itoa z) [49] = some z
      rw [← e1, smP_itoa, if_pos ⟨rfl, hz z (by simp)⟩]
    rw [prRun_step, kind_here h, tok_here h, hs]
    have ih := prRun_read ps f (k + 1) (acc ++ [z]) R (drop_next h) (fun y hy => hz y (by simp [hy])) (by simp at hf; omega)
    have e2 : ((tokN (itoa z) [49]).kind == 2) = true := rfl
    rw [if_pos e2]
    dsimp only
    rw [ih, List.append_assoc]
    congr 2
    rw [List.length_cons]
    omega
theorem ntRun_read {p : List Int} : ∀ (ns : List (List Int)) (f k : Nat) (acc : List (List Int)) (R : List Tok), T.drop k = ns.map tokK ++ tokE :: R → (∀ y ∈ ns, chkAll p [y] = 0) → ns.length < f → ntRun ntP T p f k acc = .ok (k + ns.length, acc ++ ns)
  | [], f, k, acc, R, h, _, hf => by
    obtain ⟨f, rfl⟩ : ∃ f', f = f' + 1 := ⟨f - 1, by omega⟩
    rw [ntRun_step, kind_here h, kind_here h]
    simp [tokE]
  | y :: ns, f, k, acc, R, h, hy, hf => by
    obtain ⟨f, rfl⟩ : ∃ f', f = f' + 1 := ⟨f - 1, by omega⟩
    rw [List.map_cons, List.cons_append] at h
    have hn : ntP p (tokK y) = (y, 0) := by
      unfold ntP
      rw [if_neg (by show ¬ (3 : Int) = 2; decide)]
      show (y, chkAll p [y]) = _
      rw [hy y (by simp)]
    rw [ntRun_step, kind_here h, kind_here h, tok_here h, hn]
    have ih := ntRun_read ns f (k + 1) (acc ++ [y]) R (drop_next h) (fun z hz => hy z (by simp [hz])) (by simp at hf; omega)
    have e2 : ((tokK y).kind == 2 || (tokK y).kind == 3) = true := rfl
    rw [if_pos e2, if_pos rfl]
    dsimp only
    rw [ih, List.append_assoc]
    congr 2
    rw [List.length_cons]
    omega
/-- The tokens of an event, of a voice, of the primes. -/
def evTk (x : Ev) : List Tok := tokN x.num x.den :: tokC :: (x.notes.map tokK ++ [tokE])
def vcTk (v : Vc) : List Tok := tokW [118, 111, 105, 99, 101] :: tokW v.name :: tokE :: (v.evs.map evTk).flatten
def prTk (p : List Int) : List Tok := tokW [112, 114, 105, 109, 101, 115] :: (p.map (fun z => tokN (itoa z) [49]) ++ [tokE])
theorem evTk_len (x : Ev) : (evTk x).length = x.notes.length + 3 := by unfold evTk; simp
theorem lineP_ev {p : List Int} {x : Ev} {k : Nat} {R : List Tok} {vs : List Vc} (h : T.drop k = evTk x ++ R) (hx : ∀ y ∈ x.notes, chkAll p [y] = 0) (hv : 0 < vs.length) : lineP ntP T p vs k = .ok (k + (evTk x).length, addEv vs x) := by
  unfold evTk at h
  rw [List.cons_append, List.cons_append, List.append_assoc, List.singleton_append] at h
  have h1 := drop_next h
  have h2 := drop_next h1
  have h3 : T.drop (k + 1 + 1 + x.notes.length) = tokE :: R := by
    rw [← List.drop_drop, h2, List.drop_left' (by rw [List.length_map])]
  have hlt := lt_here h3
  have hc : accAt T (k + 1) = true := by
    unfold accAt
    rw [text_here h1, text_here h1]
    rfl
  have ht : textAt T k 1 [118, 111, 105, 99, 101] = false := by rw [text_here h]; rfl
  have hk2 : kindAt T k 2 = true := by rw [kind_here h]; rfl
  rw [lineP_event ht hv hk2, hc, if_pos rfl, ntRun_read x.notes _ _ [] R h2 hx (by omega), tok_here h]
  unfold evFin
  dsimp only
  have h6 : kindAt T (k + 2 + x.notes.length) 6 = true := by
    rw [show k + 2 + x.notes.length = k + 1 + 1 + x.notes.length by omega, kind_here h3]
    rfl
  rw [h6, if_pos rfl, evTk_len]
  congr 2
  omega
theorem lineP_vc {p : List Int} {nm : List UInt8} {k : Nat} {R : List Tok} {vs : List Vc} (h : T.drop k = tokW [118, 111, 105, 99, 101] :: tokW nm :: tokE :: R) : lineP ntP T p vs k = .ok (k + 3, vs ++ [⟨nm, []⟩]) := by
  have h1 := drop_next h
  have h2 := drop_next h1
  unfold lineP vcP
  rw [text_here h, kind_here h1, show k + 2 = k + 1 + 1 by omega, kind_here h2, tok_here h1]
  rfl
theorem linesP_evs {p : List Int} : ∀ (es : List Ev) (f k : Nat) (R : List Tok) (vs : List Vc) (nm : List UInt8) (done : List Ev), T.drop k = (es.map evTk).flatten ++ R → (∀ x ∈ es, ∀ y ∈ x.notes, chkAll p [y] = 0) → linesP ntP T p (f + es.length) k (vs ++ [⟨nm, done⟩]) = linesP ntP T p f (k + ((es.map evTk).flatten).length) (vs ++ [⟨nm, done ++ es⟩])
  | [], f, k, R, vs, nm, done, _, _ => by simp
  | x :: es, f, k, R, vs, nm, done, h, hx => by
    rw [List.map_cons, List.flatten_cons, List.append_assoc] at h
    have hlt : k < T.length := by
      have h9 := h
      unfold evTk at h9
      rw [List.cons_append] at h9
      exact lt_here h9
    have hd : T.drop (k + (evTk x).length) = (es.map evTk).flatten ++ R := by rw [← List.drop_drop, h, List.drop_left' rfl]
    rw [show f + (x :: es).length = (f + es.length) + 1 by rw [List.length_cons]; omega, linesP_step hlt, lineP_ev h (hx x (by simp)) (by simp)]
    dsimp only
    rw [addEv_last]
    dsimp only
    rw [linesP_evs es f _ R vs nm (done ++ [x]) hd (fun z hz => hx z (by simp [hz])), List.map_cons, List.flatten_cons, List.length_append, Nat.add_assoc, List.append_assoc]
    rfl
def vcsN (vs : List Vc) : Nat := (vs.map fun v => v.evs.length + 1).sum
theorem linesP_vcs {p : List Int} : ∀ (vs : List Vc) (f k : Nat) (done : List Vc), T.drop k = (vs.map vcTk).flatten → (∀ v ∈ vs, ∀ x ∈ v.evs, ∀ y ∈ x.notes, chkAll p [y] = 0) → linesP ntP T p (f + vcsN vs) k done = .ok (done ++ vs)
  | [], f, k, done, h, _ => by
    have : T.length ≤ k := by
      have := congrArg List.length h
      simp at this
      omega
    rw [linesP_end this, List.append_nil]
  | v :: vs, f, k, done, h, hx => by
    rw [List.map_cons, List.flatten_cons] at h
    have h' := h
    unfold vcTk at h'
    rw [List.cons_append, List.cons_append, List.cons_append] at h'
    have hlt := lt_here h'
    have hd : T.drop (k + 3) = (v.evs.map evTk).flatten ++ (vs.map vcTk).flatten := drop_next (drop_next (drop_next h'))
    have hd2 : T.drop (k + 3 + ((v.evs.map evTk).flatten).length) = (vs.map vcTk).flatten := by rw [← List.drop_drop, hd, List.drop_left' rfl]
    have e : vcsN (v :: vs) = v.evs.length + 1 + vcsN vs := by unfold vcsN; rw [List.map_cons, List.sum_cons]
    rw [e, show f + (v.evs.length + 1 + vcsN vs) = (f + vcsN vs + v.evs.length) + 1 by omega, linesP_step hlt, lineP_vc h']
    dsimp only
    rw [linesP_evs v.evs (f + vcsN vs) (k + 3) _ done v.name [] hd (hx v (by simp))]
    rw [List.nil_append, linesP_vcs vs f _ _ hd2 (fun u hu => hx u (by simp [hu])), List.append_assoc]
    rfl
/-- The tokens of a score. -/
def scTk (s : Sc) : List Tok := prTk s.primes ++ (s.voices.map vcTk).flatten
theorem vcTk_len (v : Vc) : v.evs.length + 1 ≤ (vcTk v).length := by
  have h : ∀ es : List Ev, es.length ≤ ((es.map evTk).flatten).length := by
    intro es
    induction es with
    | nil => exact Nat.le_refl _
    | cons x r ih =>
      rw [List.map_cons, List.flatten_cons, List.length_append, evTk_len, List.length_cons]
      omega
  have := h v.evs
  unfold vcTk
  simp
  simp at this
  omega
theorem vcsN_le : ∀ vs : List Vc, vcsN vs ≤ ((vs.map vcTk).flatten).length
  | [] => Nat.le_refl _
  | v :: vs => by
    have := vcsN_le vs
    have h2 := vcTk_len v
    unfold vcsN at *
    rw [List.map_cons, List.sum_cons, List.map_cons, List.flatten_cons, List.length_append]
    omega
theorem readP_print {s : Sc} (hp : primeErr s.primes = 0) (hx : ∀ v ∈ s.voices, ∀ x ∈ v.evs, ∀ y ∈ x.notes, chkAll s.primes [y] = 0) : readP smP primeErr ntP (scTk s) = .ok s := by
  obtain ⟨T, hT⟩ : ∃ T, T = scTk s := ⟨_, rfl⟩
  have h0 : T.drop 0 = tokW [112, 114, 105, 109, 101, 115] :: ((s.primes.map (fun z => tokN (itoa z) [49])) ++ tokE :: (s.voices.map vcTk).flatten) := by
    rw [List.drop_zero, hT]
    unfold scTk prTk
    rw [List.cons_append, List.append_assoc, List.singleton_append]
  have h1 := drop_next h0
  rw [Nat.zero_add] at h1
  have h2 : T.drop (1 + s.primes.length) = tokE :: (s.voices.map vcTk).flatten := by rw [← List.drop_drop, h1, List.drop_left' (by rw [List.length_map])]
  have h3 := drop_next h2
  have hlt := lt_here h2
  have hlen : ((s.voices.map vcTk).flatten).length + 2 + s.primes.length ≤ T.length := by
    have := congrArg List.length h3
    rw [List.length_drop] at this
    omega
  have hprs : ∀ z ∈ s.primes, (decDigits z.natAbs).length ≤ 18 := fun z hz => by
    have := primeErr_mem hp hz
    have h4 := (small_len (z := z) (by omega)).2
    omega
  have hpr : prP smP primeErr T = .ok (1 + s.primes.length + 1, s.primes) := by
    unfold prP
    have ht : textAt T 0 1 [112, 114, 105, 109, 101, 115] = true := by rw [text_here h0]; rfl
    have h6 : kindAt T (1 + s.primes.length) 6 = true := by rw [kind_here h2]; rfl
    rw [ht, if_pos rfl, prRun_read s.primes _ 1 [] _ h1 hprs (by omega)]
    dsimp only
    rw [List.nil_append, h6, if_pos rfl, if_pos hp]
  rw [← hT]
  unfold readP
  rw [if_neg (by omega), hpr]
  dsimp only
  have hv := vcsN_le s.voices
  have hl := linesP_vcs (p := s.primes) s.voices (T.length + 1 - vcsN s.voices) (1 + s.primes.length + 1) [] h3 hx
  rw [show T.length + 1 - vcsN s.voices + vcsN s.voices = T.length + 1 by omega, List.nil_append] at hl
  rw [hl]
end

end Go.Proofs.YtphlodmdcmcjnaaGreatDoor

namespace Go.Proofs.YtphlodmdcmcjnaaGreatDoor
open Go.RowKit Go.Lib

/-- The lines of a score: each word with the token that is read of it. -/
def lnP (p : List Int) : List (List UInt8 × Tok) := ([112, 114, 105, 109, 101, 115], tokW [112, 114, 105, 109, 101, 115]) :: p.map fun z => (itoa z, tokN (itoa z) [49])
def lnV (nm : List UInt8) : List (List UInt8 × Tok) := [([118, 111, 105, 99, 101], tokW [118, 111, 105, 99, 101]), (nm, tokW nm)]
def lnE (x : Ev) : List (List UInt8 × Tok) := (ratText x.num x.den, tokN x.num x.den) :: ([58], tokC) :: x.notes.map fun y => (ketT y, tokK y)
def lnVc (v : Vc) : List (List (List UInt8 × Tok)) := lnV v.name :: v.evs.map lnE
def lnS (s : Sc) : List (List (List UInt8 × Tok)) := lnP s.primes :: (s.voices.map lnVc).flatten
theorem lnS_txt (s : Sc) : txtOf (lnS s) = lnsT (scL s) := by
  have h1 : ∀ ls : List (List (List UInt8 × Tok)), txtOf ls = lnsT (ls.map fun ws => ws.map (·.1)) := fun ls => by
    unfold txtOf lnsT
    rw [List.map_map]
    rfl
  rw [h1]
  congr 1
  unfold lnS scL
  rw [List.map_cons, List.map_flatten, List.map_map]
  congr 1
  · unfold lnP prW
    rw [List.map_cons, List.map_map]
    rfl
  · congr 1
    refine List.map_congr_left fun v _ => ?_
    show (lnVc v).map _ = vcL v
    unfold lnVc vcL
    rw [List.map_cons, List.map_map]
    congr 1
    refine List.map_congr_left fun x _ => ?_
    show (lnE x).map _ = evW x
    unfold lnE evW
    rw [List.map_cons, List.map_cons, List.map_map]
    rfl
theorem lnS_tok (s : Sc) : ((lnS s).map lnToks).flatten = scTk s := by
  unfold lnS scTk
  rw [List.map_cons, List.flatten_cons, List.map_flatten, List.map_map]
  congr 1
  · unfold lnToks lnP prTk
    rw [List.map_cons, List.map_map]
    rfl
  · have h : ∀ vs : List Vc, ((vs.map (List.map lnToks ∘ lnVc)).flatten).flatten = (vs.map vcTk).flatten := by
      intro vs
      induction vs with
      | nil => rfl
      | cons v r ih =>
        rw [List.map_cons, List.flatten_cons, List.flatten_append, ih, List.map_cons, List.flatten_cons]
        congr 1
        show ((lnVc v).map lnToks).flatten = vcTk v
        unfold lnVc vcTk
        rw [List.map_cons, List.flatten_cons, List.map_map]
        have e : List.map (lnToks ∘ lnE) v.evs = v.evs.map evTk := List.map_congr_left fun x _ => by
          show lnToks (lnE x) = evTk x
          unfold lnToks lnE evTk
          rw [List.map_cons, List.map_cons, List.map_map]
          rfl
        rw [e]
        rfl
    exact h _
/-- What is asked of a score that is printed. -/
structure PrtOk (s : Sc) : Prop where
  prm : ∀ z ∈ s.primes, 0 ≤ z ∧ z ≤ 97
  vcs : ∀ v ∈ s.voices, (∃ k, k < 3 ∧ v.name = nameOf k) ∧ ∀ x ∈ v.evs, (∃ n, x.num = t12n (1 + n % 24) ∧ x.den = t12d (1 + n % 24)) ∧ ∀ y ∈ x.notes, y ≠ [] ∧ y.length ≤ 4 ∧ ∀ z ∈ y, -9 ≤ z ∧ z ≤ 9
theorem lnS_rd {s : Sc} (h : PrtOk s) : ∀ ws ∈ lnS s, ws ≠ [] ∧ ∀ w ∈ ws, WordRd w.1 w.2 := by
  intro ws hws
  unfold lnS at hws
  rcases List.mem_cons.1 hws with rfl | hws
  · refine ⟨by unfold lnP; simp, fun w hw => ?_⟩
    unfold lnP at hw
    rcases List.mem_cons.1 hw with rfl | hw
    · exact rd_primes
    · obtain ⟨z, hz, rfl⟩ := List.mem_map.1 hw
      exact rd_prime (h.prm z hz).1 (h.prm z hz).2
  · obtain ⟨l, hl, hws⟩ := List.mem_flatten.1 hws
    obtain ⟨v, hv, rfl⟩ := List.mem_map.1 hl
    obtain ⟨⟨k, hk, hnm⟩, hx⟩ := h.vcs v hv
    unfold lnVc at hws
    rcases List.mem_cons.1 hws with rfl | hws
    · refine ⟨by unfold lnV; simp, fun w hw => ?_⟩
      unfold lnV at hw
      rcases List.mem_cons.1 hw with rfl | hw
      · exact rd_voice
      · obtain rfl := List.mem_singleton.1 hw
        rw [hnm]
        exact rd_name hk
    · obtain ⟨x, hxm, rfl⟩ := List.mem_map.1 hws
      obtain ⟨⟨n, h1, h2⟩, hy⟩ := hx x hxm
      refine ⟨by unfold lnE; simp, fun w hw => ?_⟩
      unfold lnE at hw
      rcases List.mem_cons.1 hw with rfl | hw
      · rw [h1, h2]
        exact rd_beat n
      · rcases List.mem_cons.1 hw with rfl | hw
        · exact rd_colon
        · obtain ⟨y, hym, rfl⟩ := List.mem_map.1 hw
          obtain ⟨h3, h4, h5⟩ := hy y hym
          exact rd_ket h3 (by omega) h5

theorem join_le {k : Nat} : ∀ {ws : List (List UInt8)}, (∀ w ∈ ws, w.length ≤ k) → (Lib.join ws [32]).length ≤ (k + 1) * ws.length
  | [], _ => by rw [show Lib.join ([] : List (List UInt8)) [32] = [] from rfl]; simp
  | [a], h => by
    rw [Lib.join_one]
    have := h a (by simp)
    simp
    omega
  | a :: b :: r, h => by
    have ih := join_le (k := k) (ws := b :: r) (fun w hw => h w (by simp [hw]))
    have h1 := h a (by simp)
    have e : (a :: b :: r).length = (b :: r).length + 1 := rfl
    rw [joinC_more, List.length_append, e, Nat.mul_add, Nat.mul_one]
    show a.length + ((Lib.join (b :: r) [32]).length + 1) ≤ _
    omega
theorem lnsT_le {k : Nat} : ∀ {ls : List (List (List UInt8))}, (∀ ws ∈ ls, ∀ w ∈ ws, w.length ≤ k) → (lnsT ls).length ≤ (k + 1) * lnsN ls
  | [], _ => by simp [lnsT]
  | ws :: r, h => by
    have ih := lnsT_le (k := k) (ls := r) (fun w hw => h w (by simp [hw]))
    have h1 := join_le (k := k) (ws := ws) (h ws (by simp))
    have e1 : lnsT (ws :: r) = lnT ws ++ lnsT r := rfl
    have e2 : lnsN (ws :: r) = (ws.length + 1) + lnsN r := by unfold lnsN; rw [List.map_cons, List.sum_cons]
    rw [e1, e2, List.length_append, lnT_len, Nat.mul_add (k + 1), Nat.mul_add (k + 1) ws.length]
    omega
theorem itoa9_len : ∀ k : Fin 19, (itoa ((k.val : Int) - 9)).length ≤ 2 := by decide +kernel
theorem itoa9 {z : Int} (h1 : -9 ≤ z) (h2 : z ≤ 9) : (itoa z).length ≤ 2 := by
  have := itoa9_len ⟨(z + 9).toNat, by omega⟩
  have e : (((z + 9).toNat : Nat) : Int) - 9 = z := by omega
  rw [e] at this
  exact this
theorem ketT_le {y : List Int} (h4 : y.length ≤ 4) (hz : ∀ z ∈ y, -9 ≤ z ∧ z ≤ 9) : (ketT y).length ≤ 30 := by
  have h1 : (rowTxt y).length ≤ 3 * y.length := by
    have := join_le (k := 2) (ws := words y) (fun w hw => by
      obtain ⟨z, hz2, rfl⟩ := List.mem_map.1 hw
      exact itoa9 (hz z hz2).1 (hz z hz2).2)
    have e : (words y).length = y.length := by unfold words; simp
    rw [e] at this
    exact this
  unfold ketT
  simp
  omega
theorem beat_len : ∀ k : Fin 24, (ratText (t12n (1 + k.val)) (t12d (1 + k.val))).length ≤ 30 := by decide +kernel
theorem scL_words {s : Sc} (h : PrtOk s) : ∀ ws ∈ scL s, ∀ w ∈ ws, w.length ≤ 30 := by
  intro ws hws w hw
  unfold scL at hws
  rcases List.mem_cons.1 hws with rfl | hws
  · unfold prW at hw
    rcases List.mem_cons.1 hw with rfl | hw
    · decide
    · obtain ⟨z, hz, rfl⟩ := List.mem_map.1 hw
      have := h.prm z hz
      exact Nat.le_trans (small_len (z := z) (by omega)).1 (by decide)
  · obtain ⟨l, hl, hws⟩ := List.mem_flatten.1 hws
    obtain ⟨v, hv, rfl⟩ := List.mem_map.1 hl
    obtain ⟨⟨k, hk, hnm⟩, hx⟩ := h.vcs v hv
    unfold vcL at hws
    rcases List.mem_cons.1 hws with rfl | hws
    · unfold vcHd at hw
      rcases List.mem_cons.1 hw with rfl | hw
      · decide
      · obtain rfl := List.mem_singleton.1 hw
        rw [hnm]
        match k, hk with
        | 0, _ => decide
        | 1, _ => decide
        | 2, _ => decide
    · obtain ⟨x, hxm, rfl⟩ := List.mem_map.1 hws
      obtain ⟨⟨n, h1, h2⟩, hy⟩ := hx x hxm
      unfold evW at hw
      rcases List.mem_cons.1 hw with rfl | hw
      · rw [h1, h2]
        exact beat_len ⟨n % 24, Nat.mod_lt _ (by decide)⟩
      · rcases List.mem_cons.1 hw with rfl | hw
        · decide
        · obtain ⟨y, hym, rfl⟩ := List.mem_map.1 hw
          obtain ⟨h3, h4, h5⟩ := hy y hym
          exact ketT_le h4 h5
theorem lnsN_flat (vs : List Vc) {a b : Nat} (h : ∀ v ∈ vs, v.evs.length ≤ a ∧ ∀ x ∈ v.evs, x.notes.length ≤ b) : lnsN ((vs.map vcL).flatten) ≤ vs.length * (3 + a * (3 + b)) := by
  have h1 : ∀ es : List Ev, (∀ x ∈ es, x.notes.length ≤ b) → lnsN (es.map evW) ≤ es.length * (3 + b) := by
    intro es
    induction es with
    | nil => intro _; simp [lnsN]
    | cons x r ih =>
      intro hx
      have e : lnsN ((x :: r).map evW) = (evW x).length + 1 + lnsN (r.map evW) := by unfold lnsN; rw [List.map_cons, List.map_cons, List.sum_cons]
      have e2 : (evW x).length = x.notes.length + 2 := by unfold evW; simp
      have := hx x (by simp)
      have := ih (fun y hy => hx y (by simp [hy]))
      rw [e, e2, List.length_cons, Nat.add_mul]
      omega
  induction vs with
  | nil => simp [lnsN]
  | cons v r ih =>
    have e : lnsN (((v :: r).map vcL).flatten) = 3 + lnsN (v.evs.map evW) + lnsN ((r.map vcL).flatten) := by
      rw [List.map_cons, List.flatten_cons, lnsN_append]
      have e9 : lnsN (vcL v) = 3 + lnsN (v.evs.map evW) := by
        show lnsN ([vcHd v] ++ v.evs.map evW) = _
        rw [lnsN_append]
        rfl
      rw [e9]
    have hv := h v (by simp)
    have h2 := h1 v.evs hv.2
    have h3 : v.evs.length * (3 + b) ≤ a * (3 + b) := Nat.mul_le_mul_right _ hv.1
    have := ih (fun u hu => h u (by simp [hu]))
    rw [e, List.length_cons, Nat.add_mul]
    omega
theorem toks_len (ls : List (List (List UInt8 × Tok))) : ((ls.map lnToks).flatten).length = lnsN (ls.map fun ws => ws.map (·.1)) := by
  induction ls with
  | nil => rfl
  | cons ws r ih =>
    have e : lnsN ((ws :: r).map fun ws => ws.map (·.1)) = ws.length + 1 + lnsN (r.map fun ws => ws.map (·.1)) := by unfold lnsN; rw [List.map_cons, List.map_cons, List.sum_cons, List.length_map]
    rw [List.map_cons, List.flatten_cons, List.length_append, ih, e]
    unfold lnToks
    simp

/-- A plan's score. -/
theorem mk_prt {n : Nat} {l : List (List Bt)} (hf : fitsPl l = true) : PrtOk (makeSc n l) ∧ lnsN (scL (makeSc n l)) ≤ 200 := by
  have hp := primesOf_ok n
  have hpz : ∀ z ∈ primesOf n, 0 ≤ z ∧ z ≤ 97 := fun z hz => by have := primeErr_mem hp.1 hz; omega
  have hp0 : 0 < (primesOf n).length := by
    rcases Nat.eq_zero_or_pos (primesOf n).length with h | h
    · have := hp.1
      unfold primeErr at this
      rw [if_pos h] at this
      cases this
    · exact h
  obtain ⟨h3, hm⟩ := fits_mem hf
  have hto : ∀ k, k ≤ l.length → ∀ v ∈ makeTo (primesOf n) l k, ∃ i, i < k ∧ v = voiceE (primesOf n).length i (l[i]?.getD []) := by
    intro k
    induction k with
    | zero => intro _ v hv; simp [makeTo] at hv
    | succ k ih =>
      intro hk v hv
      rw [makeTo] at hv
      rcases List.mem_append.1 hv with hv | hv
      · obtain ⟨i, h1, h2⟩ := ih (by omega) v hv
        exact ⟨i, by omega, h2⟩
      · exact ⟨k, by omega, List.mem_singleton.1 hv⟩
  have hivl : ∀ (x : List Int) (m : Nat), ∀ z ∈ ivlTo x m, -9 ≤ z ∧ z ≤ 9 := by
    intro x m
    induction m with
    | zero => intro z hz; simp [ivlTo] at hz
    | succ m ih =>
      intro z hz
      rw [ivlTo] at hz
      rcases List.mem_append.1 hz with hz | hz
      · exact ih z hz
      · obtain rfl := List.mem_singleton.1 hz
        have := tmod_bound (x[m]?.getD 0)
        omega
  have hvs : (makeSc n l).voices = makeTo (primesOf n) l l.length := by unfold makeSc; rw [Nat.min_eq_left h3]
  have hpr : (makeSc n l).primes = primesOf n := rfl
  have hev : ∀ v ∈ (makeSc n l).voices, v.evs.length ≤ 6 ∧ ∀ x ∈ v.evs, x.notes.length ≤ 4 := fun v hv => by
    rw [hvs] at hv
    obtain ⟨i, hi, rfl⟩ := hto _ (Nat.le_refl _) v hv
    refine ⟨by unfold voiceE; rw [List.length_map]; exact (hm i).1, fun x hx => ?_⟩
    unfold voiceE at hx
    obtain ⟨b, hb, rfl⟩ := List.mem_map.1 hx
    unfold beatE
    rw [List.length_map]
    exact (hm i).2 b hb
  refine ⟨⟨hpz, fun v hv => ?_⟩, ?_⟩
  · rw [hvs] at hv
    obtain ⟨i, hi, rfl⟩ := hto _ (Nat.le_refl _) v hv
    refine ⟨⟨i, by omega, rfl⟩, fun x hx => ?_⟩
    unfold voiceE at hx
    obtain ⟨b, hb, rfl⟩ := List.mem_map.1 hx
    refine ⟨⟨b.len, rfl, rfl⟩, fun y hy => ?_⟩
    unfold beatE at hy
    obtain ⟨q, hq, rfl⟩ := List.mem_map.1 hy
    refine ⟨fun e => ?_, by rw [ivlTo_len]; exact hp.2, hivl q _⟩
    have h9 := congrArg List.length e
    rw [ivlTo_len] at h9
    have h8 : (primesOf n).length = 0 := h9
    omega
  · have h1 := lnsN_flat (makeSc n l).voices hev
    have h2 : lnsN (scL (makeSc n l)) = lnsN [prW (makeSc n l).primes] + lnsN (((makeSc n l).voices.map vcL).flatten) := by
      unfold scL
      rw [← lnsN_append]
      rfl
    have h4 : (makeSc n l).voices.length ≤ 3 := by rw [hvs, makeTo_len]; exact h3
    have h5 := Nat.mul_le_mul_right (3 + 6 * (3 + 4)) h4
    have h6 : (prW (primesOf n)).length = (primesOf n).length + 1 := by unfold prW; simp
    rw [h2, lnsN_one, hpr, h6]
    omega
/-- It is printed, and read again. -/
theorem mk_print {n : Nat} {l : List (List Bt)} (hf : fitsPl l = true) : prOut (makeSc n l) = .tuple #[.string ⟨(lnsT (scL (makeSc n l))).toArray⟩, .int .i64 0] ∧ (lnsT (scL (makeSc n l))).length ≤ 65536 ∧ lnsN (scL (makeSc n l)) ≤ 4000 ∧ ScnOk (lnsT (scL (makeSc n l))) ∧ parseP (lnsT (scL (makeSc n l))) = .ok (makeSc n l) := by
  obtain ⟨hpk, hN⟩ := mk_prt (n := n) hf
  have he := makeSc_err (n := n) hf
  generalize makeSc n l = s at *
  have hok := ScOk.of he
  have hT : (lnsT (scL s)).length ≤ 65536 := by
    have h1 := lnsT_le (scL_words hpk)
    have h2 := Nat.mul_le_mul_left 31 hN
    omega
  have htk : ((lnS s).map lnToks).flatten = scTk s := lnS_tok s
  have htx : txtOf (lnS s) = lnsT (scL s) := lnS_txt s
  have hlen : (scTk s).length = lnsN (scL s) := by
    rw [← htk, toks_len]
    have e : (lnS s).map (fun ws => ws.map (·.1)) = scL s := by
      unfold lnS scL
      rw [List.map_cons, List.map_flatten, List.map_map]
      congr 1
      · unfold lnP prW
        rw [List.map_cons, List.map_map]
        rfl
      · congr 1
        refine List.map_congr_left fun v _ => ?_
        show (lnVc v).map _ = vcL v
        unfold lnVc vcL
        rw [List.map_cons, List.map_map]
        congr 1
        refine List.map_congr_left fun x _ => ?_
        show (lnE x).map _ = evW x
        unfold lnE evW
        rw [List.map_cons, List.map_cons, List.map_map]
        rfl
    rw [e]
  obtain ⟨L, hL, hc⟩ := scan_lines (lnS s) (lnS_rd hpk) (by rw [htk, hlen]; omega) (by rw [htx]; exact hT)
  rw [htx] at hL
  rw [htk] at hc
  have hrd := readP_core hc (readP_print (s := s) hok.prm (fun v hv x hx y hy => (hok.ev v hv x hx).2.2 y hy))
  have hnum : ∀ z : Int, 2 ≤ z → z ≤ 97 → NumTok (tokN (itoa z) [49]) := fun z h1 h2 => ⟨z, 1, rfl, (show itoa 1 = [49] by kernel_rfl).symm, by decide, by simp, Nat.le_trans (small_len (z := z) (by omega)).1 (by decide), by rw [show itoa 1 = [49] by kernel_rfl]; decide⟩
  have htok : ∀ t ∈ scTk s, t.row.length ≤ 1000 ∧ (t.kind = 2 → NumTok t) ∧ (t.kind = 1 → t.text ≠ [58] ∧ t.text.length ≤ 32) := by
    intro t ht
    unfold scTk at ht
    rcases List.mem_append.1 ht with ht | ht
    · unfold prTk at ht
      rcases List.mem_cons.1 ht with rfl | ht
      · exact ⟨by show 0 ≤ _; omega, fun h => absurd h (by decide), fun _ => ⟨by show ¬ ([112, 114, 105, 109, 101, 115] : List UInt8) = [58]; decide, by show 6 ≤ 32; decide⟩⟩
      · rcases List.mem_append.1 ht with ht | ht
        · obtain ⟨z, hz, rfl⟩ := List.mem_map.1 ht
          have := primeErr_mem hok.prm hz
          exact ⟨by show 0 ≤ _; omega, fun _ => hnum z this.1 this.2, fun h => absurd h (by show ¬ (2 : Int) = 1; decide)⟩
        · obtain rfl := List.mem_singleton.1 ht
          exact ⟨by show 0 ≤ _; omega, fun h => absurd h (by decide), fun h => absurd h (by decide)⟩
    · obtain ⟨lv, hlv, ht⟩ := List.mem_flatten.1 ht
      obtain ⟨v, hv, rfl⟩ := List.mem_map.1 hlv
      obtain ⟨⟨k, hk, hnm⟩, hx⟩ := hpk.vcs v hv
      unfold vcTk at ht
      rcases List.mem_cons.1 ht with rfl | ht
      · exact ⟨by show 0 ≤ _; omega, fun h => absurd h (by decide), fun _ => ⟨by show ¬ ([118, 111, 105, 99, 101] : List UInt8) = [58]; decide, by show 5 ≤ 32; decide⟩⟩
      · rcases List.mem_cons.1 ht with rfl | ht
        · refine ⟨by show 0 ≤ _; omega, fun h => absurd h (by show ¬ (1 : Int) = 2; decide), fun _ => ?_⟩
          show v.name ≠ [58] ∧ v.name.length ≤ 32
          rw [hnm]
          match k, hk with
          | 0, _ => exact ⟨by decide, by decide⟩
          | 1, _ => exact ⟨by decide, by decide⟩
          | 2, _ => exact ⟨by decide, by decide⟩
        · rcases List.mem_cons.1 ht with rfl | ht
          · exact ⟨by show 0 ≤ _; omega, fun h => absurd h (by decide), fun h => absurd h (by decide)⟩
          · obtain ⟨le, hle, ht⟩ := List.mem_flatten.1 ht
            obtain ⟨x, hxm, rfl⟩ := List.mem_map.1 hle
            obtain ⟨⟨m, h1, h2⟩, hy⟩ := hx x hxm
            unfold evTk at ht
            rcases List.mem_cons.1 ht with rfl | ht
            · refine ⟨by show 0 ≤ _; omega, fun _ => ?_, fun h => absurd h (by show ¬ (2 : Int) = 1; decide)⟩
              have hl := t12_len (n := 1 + m % 24) (by omega)
              exact ⟨lowN ((1 + m % 24 : Nat) : Int) 12, lowD ((1 + m % 24 : Nat) : Int) 12, h1, h2, (low_pos (by decide)).1, (low_pos (by decide)).2, Nat.le_trans hl.1 (by decide), Nat.le_trans hl.2 (by decide)⟩
            · rcases List.mem_cons.1 ht with rfl | ht
              · exact ⟨by show 0 ≤ _; omega, fun h => absurd h (by decide), fun h => absurd h (by decide)⟩
              · rcases List.mem_append.1 ht with ht | ht
                · obtain ⟨y, hym, rfl⟩ := List.mem_map.1 ht
                  have := (hy y hym).2.1
                  exact ⟨by show y.length ≤ _; omega, fun h => absurd h (by show ¬ (3 : Int) = 2; decide), fun h => absurd h (by show ¬ (3 : Int) = 1; decide)⟩
                · obtain rfl := List.mem_singleton.1 ht
                  exact ⟨by show 0 ≤ _; omega, fun h => absurd h (by decide), fun h => absurd h (by decide)⟩
  have hLtok : ∀ t ∈ L, t.row.length ≤ 1000 ∧ (t.kind = 2 → NumTok t) ∧ (t.kind = 1 → t.text ≠ [58] ∧ t.text.length ≤ 32) := by
    intro t ht
    have h1 : t.core ∈ cores (scTk s) := by rw [← hc]; exact List.mem_map.2 ⟨t, ht, rfl⟩
    obtain ⟨u, hu, e⟩ := List.mem_map.1 h1
    have h2 := htok u hu
    unfold Tok.core at e
    injection e with e1 e
    injection e with e2 e
    injection e with e3 e
    injection e with e4 e5
    rw [← e5, ← e1, ← e2]
    refine ⟨h2.1, fun h => ?_, h2.2.2⟩
    obtain ⟨n, d, g1, g2, g3⟩ := h2.2.1 h
    exact ⟨n, d, by rw [← e3]; exact g1, by rw [← e4]; exact g2, g3⟩
  refine ⟨?_, hT, by omega, ⟨by omega, fun L2 h2 => ?_⟩, ?_⟩
  · unfold prOut
    rw [if_neg (by omega), if_neg (by omega)]
  · rw [hL] at h2
    injection h2 with h2
    subst h2
    exact ⟨by have := cores_len hc; omega, fun t ht => (hLtok t ht).1, fun t ht => (hLtok t ht).2.1, fun t ht => (hLtok t ht).2.2⟩
  · unfold parseP
    rw [hL]
    show (match readP smP primeErr ntP L with
      | .error f => PRes.err f.line f.col f.err
      | .ok s => if scErr s = 0 then .ok s else .err 0 0 (scErr s)) = _
    rw [hrd]
    show (if scErr s = 0 then PRes.ok s else .err 0 0 (scErr s)) = _
    rw [if_pos he]

end Go.Proofs.YtphlodmdcmcjnaaGreatDoor
