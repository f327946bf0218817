/- The lexer in plain words: many words in a line, long words, many blanks. -/
import Derived.Test.YtagfnnongamneaaGreatDoorGL
import Derived.Test.YtagfnnongamneaaGreatDoorGK
namespace Go.Proofs.YtagfnnongamneaaGreatDoor
open Go.RowKit Go.Lib

theorem rep_even : ∀ (n j : Nat), j < n → (Lib.repeatL [97, 32] n)[2 * j]? = some 97
  | 0, _, h => by omega
  | n + 1, 0, _ => rfl
  | n + 1, j + 1, h => by
    rw [show Lib.repeatL [97, 32] (n + 1) = 97 :: 32 :: Lib.repeatL [97, 32] n from rfl, show 2 * (j + 1) = 2 * j + 1 + 1 by omega, List.getElem?_cons_succ, List.getElem?_cons_succ]
    exact rep_even n j (by omega)
theorem rep_odd : ∀ (n j : Nat), j < n → (Lib.repeatL [97, 32] n)[2 * j + 1]? = some 32
  | 0, _, h => by omega
  | n + 1, 0, _ => rfl
  | n + 1, j + 1, h => by
    rw [show Lib.repeatL [97, 32] (n + 1) = 97 :: 32 :: Lib.repeatL [97, 32] n from rfl, show 2 * (j + 1) + 1 = 2 * j + 1 + 1 + 1 by omega, List.getElem?_cons_succ, List.getElem?_cons_succ]
    exact rep_odd n j (by omega)
theorem rep_len (n : Nat) : (Lib.repeatL [97, 32] n).length = 2 * n := by
  induction n with
  | zero => rfl
  | succ n ih => rw [show Lib.repeatL [97, 32] (n + 1) = 97 :: 32 :: Lib.repeatL [97, 32] n from rfl, List.length_cons, List.length_cons, ih]; omega
theorem rep_drop : ∀ (n j : Nat), j ≤ n → (Lib.repeatL [97, 32] n).drop (2 * j) = Lib.repeatL [97, 32] (n - j)
  | n, 0, _ => rfl
  | 0, j + 1, h => by omega
  | n + 1, j + 1, h => by
    rw [show Lib.repeatL [97, 32] (n + 1) = 97 :: 32 :: Lib.repeatL [97, 32] n from rfl, show 2 * (j + 1) = 2 * j + 1 + 1 by omega, List.drop_succ_cons, List.drop_succ_cons, rep_drop n j (by omega), show n + 1 - (j + 1) = n - j by omega]
theorem rep_next (n : Nat) : nextRead (Lib.repeatL [97, 32] (n + 1)) = .good 1 [97] [] [] [] 1 := by
  rw [show Lib.repeatL [97, 32] (n + 1) = 97 :: 32 :: Lib.repeatL [97, 32] n from rfl]
  unfold nextRead
  rw [if_pos (show letB ((97 :: 32 :: Lib.repeatL [97, 32] n : List UInt8)[0]?.getD 0) = true from (by decide : letB 97 = true))]
  unfold wordRead
  rw [show runLen partB (97 :: 32 :: Lib.repeatL [97, 32] n) = 1 by rw [runLen, if_pos (by rfl), runLen, if_neg (by decide)]]
  rfl
theorem rep_mem (n : Nat) (c : UInt8) (h : c ∈ Lib.repeatL [97, 32] n) : c = 97 ∨ c = 32 := by
  induction n with
  | zero => simp [Lib.repeatL] at h
  | succ n ih =>
    rw [show Lib.repeatL [97, 32] (n + 1) = 97 :: 32 :: Lib.repeatL [97, 32] n from rfl] at h
    simp only [List.mem_cons] at h
    rcases h with h | h | h
    · exact .inl h
    · exact .inr h
    · exact ih h

/-- The line of n words, read from the word j on, with j tokens so far. -/
theorem rep_line (n : Nat) (hn : n ≤ 4000) : ∀ (d j g : Nat) (acc : List Tok), j + d = n → acc.length = j → 2 * d < g → ∃ l, lineRead 0 (Lib.repeatL [97, 32] n) g (2 * j) acc = .good l ∧ l.length = n
  | 0, j, g, acc, hd, ha, hg => by
    refine ⟨acc, lineRead_end (by rw [rep_len]; omega), by omega⟩
  | d + 1, j, 0, acc, _, _, hg => by omega
  | d + 1, j, 1, acc, _, _, hg => by omega
  | d + 1, j, g + 2, acc, hd, ha, hg => by
    have h1 : 2 * j < (Lib.repeatL [97, 32] n).length := by rw [rep_len]; omega
    have h2 : 2 * j + 1 < (Lib.repeatL [97, 32] n).length := by rw [rep_len]; omega
    have hnx : nextRead ((Lib.repeatL [97, 32] n).drop (2 * j)) = .good 1 [97] [] [] [] 1 := by
      rw [rep_drop n j (by omega), show n - j = d + 1 by omega]; exact rep_next d
    rw [lineRead_more h1 (by rw [rep_even n j (by omega)]; rfl) hnx (by omega)]
    rw [lineRead_blank h2 (by rw [rep_odd n j (by omega)]; rfl)]
    rw [show 2 * j + 1 + 1 = 2 * (j + 1) by omega]
    exact rep_line n hn d (j + 1) g _ (by omega) (by simp; omega) (by omega)
theorem rep_over (n : Nat) (hn : 4000 < n) : ∀ (d j g : Nat) (acc : List Tok), j + d = 4000 → acc.length = j → 2 * d < g → lineRead 0 (Lib.repeatL [97, 32] n) g (2 * j) acc = .bad 8001 4
  | 0, j, 0, acc, hd, ha, hg => by omega
  | 0, j, g + 1, acc, hd, ha, hg => by
    have h1 : 2 * j < (Lib.repeatL [97, 32] n).length := by rw [rep_len]; omega
    have hnx : nextRead ((Lib.repeatL [97, 32] n).drop (2 * j)) = .good 1 [97] [] [] [] 1 := by
      rw [rep_drop n j (by omega), show n - j = (n - j - 1) + 1 by omega]; exact rep_next _
    rw [lineRead_full h1 (by rw [rep_even n j (by omega)]; rfl) hnx (by omega)]
    obtain rfl : j = 4000 := by omega
    rfl
  | d + 1, j, 0, acc, _, _, hg => by omega
  | d + 1, j, 1, acc, _, _, hg => by omega
  | d + 1, j, g + 2, acc, hd, ha, hg => by
    have h1 : 2 * j < (Lib.repeatL [97, 32] n).length := by rw [rep_len]; omega
    have h2 : 2 * j + 1 < (Lib.repeatL [97, 32] n).length := by rw [rep_len]; omega
    have hnx : nextRead ((Lib.repeatL [97, 32] n).drop (2 * j)) = .good 1 [97] [] [] [] 1 := by
      rw [rep_drop n j (by omega), show n - j = (n - j - 1) + 1 by omega]; exact rep_next _
    rw [lineRead_more h1 (by rw [rep_even n j (by omega)]; rfl) hnx (by omega)]
    rw [lineRead_blank h2 (by rw [rep_odd n j (by omega)]; rfl)]
    rw [show 2 * j + 1 + 1 = 2 * (j + 1) by omega]
    exact rep_over n hn d (j + 1) g _ (by omega) (by simp; omega) (by omega)

theorem takeWhile_all {p : UInt8 → Bool} : ∀ {l : List UInt8}, (∀ c ∈ l, p c = true) → l.takeWhile p = l
  | [], _ => rfl
  | c :: t, h => by rw [List.takeWhile_cons, if_pos (h c (by simp)), takeWhile_all (fun x hx => h x (by simp [hx]))]
theorem cutAll_one {b : UInt8} : ∀ {l : List UInt8}, (∀ c ∈ l, c ≠ b) → cutAll b l = [l]
  | [], _ => rfl
  | c :: t, h => by rw [cutAll_miss (h c (by simp)) (cutAll_one (fun x hx => h x (by simp [hx])))]
theorem scan_one {s : List UInt8} (hl : s.length ≤ 65536) (h : ∀ c ∈ s, c ≠ 10) (h2 : ∀ c ∈ s, c ≠ 59) : scanRead s = linesRead 0 [s] [] ∧ cutSemi s = s := by
  refine ⟨by rw [scanRead, if_neg (by omega), cutAll_one h], takeWhile_all fun c hc => by simpa using h2 c hc⟩

/-- A text of n words, each behind the other. -/
theorem scan_words_less (n : Nat) (h0 : 0 < n) (h : n < 4000) : ∃ l, scanRead (Lib.repeatL [97, 32] n) = .good l ∧ l.length = n + 1 := by
  obtain ⟨h1, h2⟩ := scan_one (s := Lib.repeatL [97, 32] n) (by rw [rep_len]; omega) (fun c hc => by rcases rep_mem n c hc with rfl | rfl <;> decide) (fun c hc => by rcases rep_mem n c hc with rfl | rfl <;> decide)
  obtain ⟨l, h3, h4⟩ := rep_line n (by omega) n 0 (2 * n + 1) [] (by omega) rfl (by omega)
  refine ⟨l ++ [endTok 0 (Lib.repeatL [97, 32] n)], ?_, by simp [h4]⟩
  rw [h1, linesRead_more (l := l) (by rw [h2, rep_len]; exact h3) (by rw [List.length_nil]; omega) (by omega)]
  rfl
theorem scan_words_full : scanRead (Lib.repeatL [97, 32] 4000) = .bad 1 8001 4 := by
  obtain ⟨h1, h2⟩ := scan_one (s := Lib.repeatL [97, 32] 4000) (by rw [rep_len]; omega) (fun c hc => by rcases rep_mem _ c hc with rfl | rfl <;> decide) (fun c hc => by rcases rep_mem _ c hc with rfl | rfl <;> decide)
  obtain ⟨l, h3, h4⟩ := rep_line 4000 (by omega) 4000 0 (2 * 4000 + 1) [] (by omega) rfl (by omega)
  rw [h1, linesRead_full (l := l) (by rw [h2, rep_len]; exact h3) (by rw [List.length_nil]; omega) h4, rep_len]
  rfl
theorem scan_words_more (n : Nat) (h : 4000 < n) (hn : n ≤ 10000) : scanRead (Lib.repeatL [97, 32] n) = .bad 1 8001 4 := by
  obtain ⟨h1, h2⟩ := scan_one (s := Lib.repeatL [97, 32] n) (by rw [rep_len]; omega) (fun c hc => by rcases rep_mem n c hc with rfl | rfl <;> decide) (fun c hc => by rcases rep_mem n c hc with rfl | rfl <;> decide)
  have h3 := rep_over n h 4000 0 (2 * n + 1) [] (by omega) rfl (by omega)
  rw [h1, linesRead_bad (c := 8001) (e := 4) (by rw [h2, rep_len]; exact h3)]
  rfl

theorem runLen_all {p : UInt8 → Bool} : ∀ {l : List UInt8}, (∀ c ∈ l, p c = true) → runLen p l = l.length
  | [], _ => rfl
  | c :: t, h => by rw [runLen, if_pos (h c (by simp)), runLen_all (fun x hx => h x (by simp [hx])), List.length_cons]
theorem xs_mem {m : Nat} {c : UInt8} (h : c ∈ Lib.repeatL [120] m) : c = 120 := by
  induction m with
  | zero => simp [Lib.repeatL] at h
  | succ n ih =>
    rw [show Lib.repeatL [120] (n + 1) = 120 :: Lib.repeatL [120] n from rfl] at h
    rcases List.mem_cons.1 h with h | h
    · exact h
    · exact ih h
theorem one_len (c : UInt8) (m : Nat) : (Lib.repeatL [c] m).length = m := by
  induction m with
  | zero => rfl
  | succ n ih => rw [show Lib.repeatL [c] (n + 1) = c :: Lib.repeatL [c] n from rfl, List.length_cons, ih]
theorem xs_next (m : Nat) : nextRead (Lib.repeatL [120] (m + 1)) = if 32 < m + 1 then .bad 8 else .good 1 (Lib.repeatL [120] (m + 1)) [] [] [] (m + 1) := by
  have hr : runLen partB (Lib.repeatL [120] (m + 1)) = m + 1 := by rw [runLen_all (fun c hc => by rw [xs_mem hc]; rfl), one_len]
  unfold nextRead
  rw [if_pos (show letB ((Lib.repeatL [120] (m + 1) : List UInt8)[0]?.getD 0) = true from (by decide : letB 120 = true))]
  unfold wordRead
  rw [hr, List.take_of_length_le (by rw [one_len]; exact Nat.le_refl _)]
/-- 'b', a blank, and m letters. -/
theorem scan_long_word (m : Nat) (h : 32 < m) (hm : m ≤ 1000) : scanRead (98 :: 32 :: Lib.repeatL [120] m) = .bad 1 3 8 := by
  obtain ⟨m, rfl⟩ : ∃ k, m = k + 1 := ⟨m - 1, by omega⟩
  have hmem : ∀ c ∈ (98 :: 32 :: Lib.repeatL [120] (m + 1) : List UInt8), c = 98 ∨ c = 32 ∨ c = 120 := fun c hc => by
    simp only [List.mem_cons] at hc
    rcases hc with h | h | h
    · exact .inl h
    · exact .inr (.inl h)
    · exact .inr (.inr (xs_mem h))
  obtain ⟨h1, h2⟩ := scan_one (s := 98 :: 32 :: Lib.repeatL [120] (m + 1)) (by simp [one_len]; omega) (fun c hc => by rcases hmem c hc with rfl | rfl | rfl <;> decide) (fun c hc => by rcases hmem c hc with rfl | rfl | rfl <;> decide)
  have n0 : nextRead ((98 :: 32 :: Lib.repeatL [120] (m + 1)).drop 0) = .good 1 [98] [] [] [] 1 := by
    rw [List.drop_zero]
    unfold nextRead
    rw [if_pos (show letB ((98 :: 32 :: Lib.repeatL [120] (m + 1) : List UInt8)[0]?.getD 0) = true from (by decide : letB 98 = true))]
    unfold wordRead
    rw [show runLen partB (98 :: 32 :: Lib.repeatL [120] (m + 1)) = 1 by rw [runLen, if_pos (by rfl), runLen, if_neg (by decide)]]
    rfl
  have n2 : nextRead ((98 :: 32 :: Lib.repeatL [120] (m + 1)).drop 2) = .bad 8 := by
    rw [show (98 :: 32 :: Lib.repeatL [120] (m + 1)).drop 2 = Lib.repeatL [120] (m + 1) from rfl, xs_next, if_pos h]
  have hlen : (98 :: 32 :: Lib.repeatL [120] (m + 1) : List UInt8).length = m + 3 := by simp [one_len]
  rw [h1, linesRead_bad (c := 3) (e := 8)]
  · rfl
  · rw [h2, hlen, lineRead_more (by rw [hlen]; omega) (by rfl) n0 (by decide), lineRead_blank (by rw [hlen]; omega) (by rfl), lineRead_bad (by rw [hlen]; omega) (by rfl) n2]
    rfl
theorem scan_short_word (m : Nat) (h0 : 0 < m) (h : m ≤ 32) : ∃ l, scanRead (98 :: 32 :: Lib.repeatL [120] m) = .good l := by
  obtain ⟨m, rfl⟩ : ∃ k, m = k + 1 := ⟨m - 1, by omega⟩
  have hmem : ∀ c ∈ (98 :: 32 :: Lib.repeatL [120] (m + 1) : List UInt8), c = 98 ∨ c = 32 ∨ c = 120 := fun c hc => by
    simp only [List.mem_cons] at hc
    rcases hc with h | h | h
    · exact .inl h
    · exact .inr (.inl h)
    · exact .inr (.inr (xs_mem h))
  obtain ⟨h1, h2⟩ := scan_one (s := 98 :: 32 :: Lib.repeatL [120] (m + 1)) (by simp [one_len]; omega) (fun c hc => by rcases hmem c hc with rfl | rfl | rfl <;> decide) (fun c hc => by rcases hmem c hc with rfl | rfl | rfl <;> decide)
  have n0 : nextRead ((98 :: 32 :: Lib.repeatL [120] (m + 1)).drop 0) = .good 1 [98] [] [] [] 1 := by
    rw [List.drop_zero]
    unfold nextRead
    rw [if_pos (show letB ((98 :: 32 :: Lib.repeatL [120] (m + 1) : List UInt8)[0]?.getD 0) = true from (by decide : letB 98 = true))]
    unfold wordRead
    rw [show runLen partB (98 :: 32 :: Lib.repeatL [120] (m + 1)) = 1 by rw [runLen, if_pos (by rfl), runLen, if_neg (by decide)]]
    rfl
  have n2 : nextRead ((98 :: 32 :: Lib.repeatL [120] (m + 1)).drop 2) = .good 1 (Lib.repeatL [120] (m + 1)) [] [] [] (m + 1) := by
    rw [show (98 :: 32 :: Lib.repeatL [120] (m + 1)).drop 2 = Lib.repeatL [120] (m + 1) from rfl, xs_next, if_neg (by omega)]
  have hlen : (98 :: 32 :: Lib.repeatL [120] (m + 1) : List UInt8).length = m + 3 := by simp [one_len]
  have hl : ∃ l, lineRead 0 (98 :: 32 :: Lib.repeatL [120] (m + 1)) (m + 4) 0 [] = .good l ∧ l.length = 2 := by
    rw [lineRead_more (by rw [hlen]; omega) (by rfl) n0 (by decide), lineRead_blank (by rw [hlen]; omega) (by rfl), lineRead_more (by rw [hlen]; omega) (by rfl) n2 (by decide), lineRead_end (by rw [hlen]; omega)]
    exact ⟨_, rfl, rfl⟩
  obtain ⟨l, hl, hl2⟩ := hl
  exact ⟨_, by rw [h1, linesRead_more (l := l) (by rw [h2, hlen]; exact hl) (by simp [hl2]) (by omega)]; rfl⟩

theorem blanks_mem {m : Nat} {c : UInt8} (h : c ∈ Lib.repeatL [32] m) : c = 32 := by
  induction m with
  | zero => simp [Lib.repeatL] at h
  | succ n ih =>
    rw [show Lib.repeatL [32] (n + 1) = 32 :: Lib.repeatL [32] n from rfl] at h
    rcases List.mem_cons.1 h with h | h
    · exact h
    · exact ih h
theorem blanks_line (n : Nat) : ∀ (g k : Nat), lineRead 0 (Lib.repeatL [32] n) g k [] = .good []
  | 0, _ => rfl
  | g + 1, k => by
    by_cases h : k < (Lib.repeatL [32] n).length
    · rw [lineRead_blank h (by rw [List.getElem?_eq_getElem h, Option.getD_some, blanks_mem (List.getElem_mem h)]; rfl)]
      exact blanks_line n g (k + 1)
    · exact lineRead_end h
theorem scan_blanks (n : Nat) (h : n ≤ 65536) : scanRead (Lib.repeatL [32] n) = .good [] := by
  obtain ⟨h1, h2⟩ := scan_one (s := Lib.repeatL [32] n) (by rw [one_len]; exact h) (fun c hc => by rw [blanks_mem hc]; decide) (fun c hc => by rw [blanks_mem hc]; decide)
  rw [h1, linesRead_same (l := []) (by rw [h2]; exact blanks_line n _ _) rfl]
  rfl
theorem scan_too_many (n : Nat) (h : 65536 < n) : scanRead (Lib.repeatL [32] n) = .bad 1 1 16 := by
  rw [scanRead, if_pos (by rw [one_len]; exact h)]

end Go.Proofs.YtagfnnongamneaaGreatDoor
