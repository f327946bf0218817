/- A joined text is split into its words again. row.Parse of the text of a right row. row.Parse of the text of a right row: the walk. row.canonical of any text (for MonzoReads). slices.ContainsFunc over any words (for MonzoReads). strings.Split at one byte, for any text, as a plain recursion. row.Parse of any text: what it reads, and the walk. row.Parse of any text: the walk. -/
import Derived.Test.YteenfcmnmenigaaGreatDoorGE
import Derived.Lib.Split
import Derived.Test.YteenfcmnmenigaaGreatDoorSayG
import Derived.Test.YteenfcmnmenigaaGreatDoorGYa
import Derived.Test.YteenfcmnmenigaaGreatDoorFParG
namespace Go.Proofs.YteenfcmnmenigaaGreatDoor
open Go.RowKit Go.Lib

theorem index32_none : ∀ (l : List UInt8), (∀ c ∈ l, c ≠ 32) → Lib.index l [32] = -1
  | [], _ => rfl
  | c :: t, h => by
    have hc : c ≠ 32 := h c (by simp)
    have h1 : ([32] : List UInt8).isPrefixOf (c :: t) = false := by simp [List.isPrefixOf, Ne.symm hc]
    rw [Lib.index, h1, index32_none t (fun x hx => h x (by simp [hx]))]
    rfl
theorem index32_at : ∀ (l r : List UInt8), (∀ c ∈ l, c ≠ 32) → Lib.index (l ++ 32 :: r) [32] = l.length
  | [], r, _ => by rw [List.nil_append, Lib.index, if_pos (by simp [List.isPrefixOf])]; rfl
  | c :: t, r, h => by
    have hc : c ≠ 32 := h c (by simp)
    have h1 : ([32] : List UInt8).isPrefixOf (c :: (t ++ 32 :: r)) = false := by simp [List.isPrefixOf, Ne.symm hc]
    have h2 := index32_at t r (fun x hx => h x (by simp [hx]))
    rw [List.cons_append, Lib.index, h1, h2, if_neg (by decide), if_neg (by rw [beq_iff_eq]; omega), List.length_cons]
    rfl

theorem join_more (x y : List UInt8) (r : List (List UInt8)) : Lib.join (x :: y :: r) [32] = x ++ 32 :: Lib.join (y :: r) [32] := by
  simp [Lib.join, List.intercalate]

theorem split_join : ∀ (ws : List (List UInt8)), ws ≠ [] → (∀ l ∈ ws, ∀ c ∈ l, c ≠ 32) → Lib.count (Lib.join ws [32]) [32] + 1 = ws.length ∧ Lib.splitK [32] 0 (Lib.count (Lib.join ws [32]) [32]) (Lib.join ws [32]) = ws
  | [], h, _ => absurd rfl h
  | [x], _, h => by
    have hi := index32_none x (h x (by simp))
    rw [Lib.join_one, Lib.count_miss hi]
    exact ⟨rfl, rfl⟩
  | x :: y :: r, _, h => by
    obtain ⟨i1, i2⟩ := split_join (y :: r) (by simp) (fun l hl => h l (by simp at hl ⊢; right; exact hl))
    have hi := index32_at x (Lib.join (y :: r) [32]) (h x (by simp))
    have hdrop : (x ++ 32 :: Lib.join (y :: r) [32]).drop (x.length + 1) = Lib.join (y :: r) [32] := by
      rw [show x ++ 32 :: Lib.join (y :: r) [32] = (x ++ [32]) ++ Lib.join (y :: r) [32] by simp, List.drop_left' (by simp)]
    have hcnt : Lib.count (x ++ 32 :: Lib.join (y :: r) [32]) [32] = Lib.count (Lib.join (y :: r) [32]) [32] + 1 := by
      have := Lib.count_hit (s := x ++ 32 :: Lib.join (y :: r) [32]) (sub := [32]) (by simp) hi
      rw [this, show ([32] : List UInt8).length = 1 from rfl, hdrop]; omega
    rw [join_more, hcnt]
    refine ⟨by rw [i1]; simp, ?_⟩
    rw [Lib.splitK, hi, if_neg (by rw [beq_iff_eq]; omega), Int.toNat_natCast, show ([32] : List UInt8).length = 1 from rfl, hdrop, i2, Nat.add_zero, List.take_left' rfl]

theorem splitB_join (ws : List (List UInt8)) (h0 : ws ≠ []) (h : ∀ l ∈ ws, ∀ c ∈ l, c ≠ 32) : Lib.countB ⟨(Lib.join ws [32]).toArray⟩ ⟨#[32]⟩ + 1 = ws.length ∧ Lib.splitB ⟨#[32]⟩ 0 (Lib.countB ⟨(Lib.join ws [32]).toArray⟩ ⟨#[32]⟩) ⟨(Lib.join ws [32]).toArray⟩ = ws.map (fun l => ⟨l.toArray⟩) := by
  obtain ⟨h1, h2⟩ := split_join ws h0 h
  refine ⟨h1, ?_⟩
  have h3 := Lib.splitB_data ⟨#[32]⟩ 0 (Lib.countB ⟨(Lib.join ws [32]).toArray⟩ ⟨#[32]⟩) ⟨(Lib.join ws [32]).toArray⟩
  have h4 : (Lib.splitB ⟨#[32]⟩ 0 (Lib.countB ⟨(Lib.join ws [32]).toArray⟩ ⟨#[32]⟩) ⟨(Lib.join ws [32]).toArray⟩).map (·.data.toList) = ws := h3.trans h2
  have h5 := congrArg (List.map (fun l : List UInt8 => (⟨l.toArray⟩ : ByteArray))) h4
  rw [List.map_map] at h5
  rw [← h5]
  conv => lhs; rw [← List.map_id (Lib.splitB ⟨#[32]⟩ 0 (Lib.countB ⟨(Lib.join ws [32]).toArray⟩ ⟨#[32]⟩) ⟨(Lib.join ws [32]).toArray⟩)]
  rfl

end Go.Proofs.YteenfcmnmenigaaGreatDoor

namespace Go.Proofs.YteenfcmnmenigaaGreatDoor
open Go.RowKit Go.Lib

theorem trim_dash (z : Int) : Lib.trimPrefix (itoa z) [45] = decDigits z.natAbs := by
  unfold Lib.trimPrefix Lib.hasPrefix
  rcases itoa_cases z with ⟨_, e⟩ | ⟨_, e⟩
  · rw [e]; simp [List.isPrefixOf]
  · rw [e]
    obtain ⟨c, r, e2, hc, _⟩ := dec_first z.natAbs
    have h : c ≠ 45 := fun h => by subst h; simp at hc
    rw [e2, if_neg (by simp [List.isPrefixOf, Ne.symm h])]
theorem word_zero (z : Int) : (itoa z == [48]) = decide (z = 0) := itoa_zero_beq z
theorem dec_head0 (n : Nat) (h : 0 < n) : ((decDigits n)[0]?.getD 0).toNat ≠ 48 := by
  obtain ⟨c, r, e, hc⟩ := dec_head n h
  rw [e]; exact hc

/-- A slice of the words of a row, in a block of its own. -/
def WordsAt (w : World) (b : Nat) (x : List Int) : Prop := b < w.heap.size ∧ ∀ k, k < x.length → w.cell? ⟨b, k, Option.none⟩ = some (.string ⟨(itoa (x[k]?.getD 0)).toArray⟩)
theorem WordsAt.below {w w' : World} {b : Nat} {x : List Int} (h : WordsAt w b x) (hb : Below w.heap.size w w') : WordsAt w' b x :=
  ⟨Nat.lt_of_lt_of_le h.1 hb.size, fun k hk => (hb.cell h.1).trans (h.2 k hk)⟩

end Go.Proofs.YteenfcmnmenigaaGreatDoor

namespace Go.Proofs.YteenfcmnmenigaaGreatDoor
open Go.RowKit Go.Lib

theorem itoa_no_space (z : Int) : ∀ c ∈ itoa z, c ≠ 32 := by
  intro c hc h
  subst h
  rcases itoa_cases z with ⟨_, e⟩ | ⟨_, e⟩
  · rw [e] at hc
    rcases List.mem_cons.1 hc with h | h
    · cases h
    · have := dec_dig _ _ h; unfold isDig at this; exact absurd this.1 (by decide)
  · rw [e] at hc
    have := dec_dig _ _ hc; unfold isDig at this; exact absurd this.1 (by decide)

theorem words_space (x : List Int) : ∀ l ∈ words x, ∀ c ∈ l, c ≠ 32 := by
  intro l hl
  unfold words at hl
  obtain ⟨z, _, rfl⟩ := List.mem_map.1 hl
  exact itoa_no_space z

/-- strings.Split of the words of a row. -/
theorem split_words (x : List Int) (m : Int) (w : World) (h0 : x ≠ []) (hs : (rowTxt x).length < 4294967281) (hm : w.cell? ⟨2, 0, Option.none⟩ = some (.int .i64 m)) :
    Calls Tryz.prog 55 #[.string ⟨(rowTxt x).toArray⟩, .string ⟨#[32]⟩] w fun e w' => ∃ b, e = .returned (.slice (some ⟨b, 0, Option.none⟩) x.length x.length) ∧ WordsAt w' b x ∧ Below w.heap.size w w' := by
  have hw0 : words x ≠ [] := by unfold words; simpa using h0
  obtain ⟨h1, h2⟩ := splitB_join (words x) hw0 (words_space x)
  have hl : (words x).length = x.length := by unfold words; simp
  rw [hl] at h1
  refine (split_run (rowTxt x) [32] m w hs hm (by decide)).mono fun e w' ⟨he, hw⟩ => ⟨w.heap.size, ?_, ?_, ?_⟩
  · rw [he]
    show Ending.returned (.slice _ (Lib.countB ⟨(Lib.join (words x) [32]).toArray⟩ ⟨#[32]⟩ + 1) (Lib.countB ⟨(Lib.join (words x) [32]).toArray⟩ ⟨#[32]⟩ + 1)) = _
    rw [h1]
  · have hw' : w' = w.alloc (.cells (((words x).map (fun l => (⟨l.toArray⟩ : ByteArray))).map Value.string).toArray 9) := by rw [← h2]; exact hw
    rw [hw']
    have hc := Cells.new w 9 (((words x).map (fun l => (⟨l.toArray⟩ : ByteArray))).map Value.string).toArray
    refine ⟨hc.lt, fun k hk => ?_⟩
    have := hc.cell k
    rw [this]
    unfold words
    simp [List.getElem?_map, List.getElem?_eq_getElem hk]
  · rw [hw]; exact (Below.refl _ _).alloc (Nat.le_refl _) _

theorem suffix_cut (l : List UInt8) : Lib.hasSuffix (l ++ [62]) [62] = true ∧ Lib.trimSuffix (l ++ [62]) [62] = l := by
  have h : Lib.hasSuffix (l ++ [62]) [62] = true := by
    unfold Lib.hasSuffix
    rw [List.isSuffixOf_iff_suffix]
    exact List.suffix_append _ _
  refine ⟨h, ?_⟩
  unfold Lib.trimSuffix
  rw [if_pos h]
  simp
theorem prefix_cut (l : List UInt8) : Lib.hasPrefix (91 :: l) [91] = true ∧ Lib.trimPrefix (91 :: l) [91] = l := by
  have h : Lib.hasPrefix (91 :: l) [91] = true := by unfold Lib.hasPrefix; simp [List.isPrefixOf]
  refine ⟨h, ?_⟩
  unfold Lib.trimPrefix
  rw [if_pos h]
  rfl

theorem atoi_word (z : Int) (w : World) (h1 : -1000000 ≤ z) (h2 : z ≤ 1000000) (hl : (itoa z).length ≤ 1000) :
    Calls Tryz.prog 56 #[.string ⟨(itoa z).toArray⟩] w fun e w' => e = .returned (.tuple #[.int .i64 z, .nilIface]) ∧ Below w.heap.size w w' :=
  (Tryz.strconv_Atoi_ok ⟨(itoa z).toArray⟩ (by simp [ByteArray.size]; omega) z (by simpa using atoi_itoa z (by omega) (by omega)) w).mono fun _ _ ⟨h, hw⟩ => ⟨h, bytes_below' hw⟩

end Go.Proofs.YteenfcmnmenigaaGreatDoor

namespace Go.Proofs.YteenfcmnmenigaaGreatDoor
open Go.RowKit Go.Lib

/-- What canonical says of a text whose part behind the sign is d. -/
def canWd (l d : List UInt8) : Bool := d.all digB && (l == [48] || (!d.isEmpty && decide ((d[0]?.getD 0).toNat ≠ 48)))
def canW (l : List UInt8) : Bool := canWd l (Lib.trimPrefix l [45])

end Go.Proofs.YteenfcmnmenigaaGreatDoor

namespace Go.Proofs.YteenfcmnmenigaaGreatDoor
open Go.RowKit Go.Lib

/-- A slice of texts, in a block of its own. -/
def TextsAt (w : World) (b : Nat) (ws : List (List UInt8)) : Prop := b < w.heap.size ∧ ∀ k, k < ws.length → w.cell? ⟨b, k, Option.none⟩ = some (.string ⟨(ws[k]?.getD []).toArray⟩)
theorem TextsAt.below {w w' : World} {b : Nat} {ws : List (List UInt8)} (h : TextsAt w b ws) (hb : Below w.heap.size w w') : TextsAt w' b ws :=
  ⟨Nat.lt_of_lt_of_le h.1 hb.size, fun k hk => (hb.cell h.1).trans (h.2 k hk)⟩

end Go.Proofs.YteenfcmnmenigaaGreatDoor

namespace Go.Proofs.YteenfcmnmenigaaGreatDoor
open Go.RowKit Go.Lib

theorem idx1_none (b : UInt8) : ∀ (l : List UInt8), (∀ c ∈ l, c ≠ b) → Lib.index l [b] = -1
  | [], _ => rfl
  | c :: t, h => by
    have hc : c ≠ b := h c (by simp)
    have h1 : ([b] : List UInt8).isPrefixOf (c :: t) = false := by simp [List.isPrefixOf, Ne.symm hc]
    rw [Lib.index, h1, idx1_none b t (fun x hx => h x (by simp [hx]))]
    rfl
theorem idx1_at (b : UInt8) : ∀ (l r : List UInt8), (∀ c ∈ l, c ≠ b) → Lib.index (l ++ b :: r) [b] = l.length
  | [], r, _ => by rw [List.nil_append, Lib.index, if_pos (by simp [List.isPrefixOf])]; rfl
  | c :: t, r, h => by
    have hc : c ≠ b := h c (by simp)
    have h1 : ([b] : List UInt8).isPrefixOf (c :: (t ++ b :: r)) = false := by simp [List.isPrefixOf, Ne.symm hc]
    have h2 := idx1_at b t r (fun x hx => h x (by simp [hx]))
    rw [List.cons_append, Lib.index, h1, h2, if_neg (by decide), if_neg (by rw [beq_iff_eq]; omega), List.length_cons]
    rfl
theorem joinC_more (b : UInt8) (x y : List UInt8) (r : List (List UInt8)) : Lib.join (x :: y :: r) [b] = x ++ b :: Lib.join (y :: r) [b] := by
  simp [Lib.join, List.intercalate]

theorem split_joinC (b : UInt8) : ∀ (ws : List (List UInt8)), ws ≠ [] → (∀ l ∈ ws, ∀ c ∈ l, c ≠ b) → Lib.count (Lib.join ws [b]) [b] + 1 = ws.length ∧ Lib.splitK [b] 0 (Lib.count (Lib.join ws [b]) [b]) (Lib.join ws [b]) = ws
  | [], h, _ => absurd rfl h
  | [x], _, h => by
    have hi := idx1_none b x (h x (by simp))
    rw [Lib.join_one, Lib.count_miss hi]
    exact ⟨rfl, rfl⟩
  | x :: y :: r, _, h => by
    obtain ⟨i1, i2⟩ := split_joinC b (y :: r) (by simp) (fun l hl => h l (by simp at hl ⊢; right; exact hl))
    have hi := idx1_at b x (Lib.join (y :: r) [b]) (h x (by simp))
    have hdrop : (x ++ b :: Lib.join (y :: r) [b]).drop (x.length + 1) = Lib.join (y :: r) [b] := by
      rw [show x ++ b :: Lib.join (y :: r) [b] = (x ++ [b]) ++ Lib.join (y :: r) [b] by simp, List.drop_left' (by simp)]
    have hcnt : Lib.count (x ++ b :: Lib.join (y :: r) [b]) [b] = Lib.count (Lib.join (y :: r) [b]) [b] + 1 := by
      have := Lib.count_hit (s := x ++ b :: Lib.join (y :: r) [b]) (sub := [b]) (by simp) hi
      rw [this, show ([b] : List UInt8).length = 1 from rfl, hdrop]; omega
    rw [joinC_more, hcnt]
    refine ⟨by rw [i1]; simp, ?_⟩
    rw [Lib.splitK, hi, if_neg (by rw [beq_iff_eq]; omega), Int.toNat_natCast, show ([b] : List UInt8).length = 1 from rfl, hdrop, i2, Nat.add_zero, List.take_left' rfl]

theorem splitB_joinC (b : UInt8) (ws : List (List UInt8)) (h0 : ws ≠ []) (h : ∀ l ∈ ws, ∀ c ∈ l, c ≠ b) : Lib.countB ⟨(Lib.join ws [b]).toArray⟩ ⟨#[b]⟩ + 1 = ws.length ∧ Lib.splitB ⟨#[b]⟩ 0 (Lib.countB ⟨(Lib.join ws [b]).toArray⟩ ⟨#[b]⟩) ⟨(Lib.join ws [b]).toArray⟩ = ws.map (fun l => ⟨l.toArray⟩) := by
  obtain ⟨h1, h2⟩ := split_joinC b ws h0 h
  refine ⟨h1, ?_⟩
  have h3 := Lib.splitB_data ⟨#[b]⟩ 0 (Lib.countB ⟨(Lib.join ws [b]).toArray⟩ ⟨#[b]⟩) ⟨(Lib.join ws [b]).toArray⟩
  have h4 : (Lib.splitB ⟨#[b]⟩ 0 (Lib.countB ⟨(Lib.join ws [b]).toArray⟩ ⟨#[b]⟩) ⟨(Lib.join ws [b]).toArray⟩).map (·.data.toList) = ws := h3.trans h2
  have h5 := congrArg (List.map (fun l : List UInt8 => (⟨l.toArray⟩ : ByteArray))) h4
  rw [List.map_map] at h5
  rw [← h5]
  conv => lhs; rw [← List.map_id (Lib.splitB ⟨#[b]⟩ 0 (Lib.countB ⟨(Lib.join ws [b]).toArray⟩ ⟨#[b]⟩) ⟨(Lib.join ws [b]).toArray⟩)]
  rfl

/-- The pieces of a text between the bytes b. -/
def cutAll (b : UInt8) : List UInt8 → List (List UInt8)
  | [] => [[]]
  | x :: t => if x = b then [] :: cutAll b t else
    match cutAll b t with
    | [] => [[x]]
    | a :: r => (x :: a) :: r
theorem cutAll_ne (b : UInt8) : ∀ l, cutAll b l ≠ []
  | [] => by simp [cutAll]
  | x :: t => by
    unfold cutAll
    split
    · simp
    · split <;> simp
theorem cutAll_hit (b : UInt8) (t : List UInt8) : cutAll b (b :: t) = [] :: cutAll b t := by rw [cutAll, if_pos rfl]
theorem cutAll_miss {b x : UInt8} (h : x ≠ b) {t a : List UInt8} {r : List (List UInt8)} (e : cutAll b t = a :: r) : cutAll b (x :: t) = (x :: a) :: r := by rw [cutAll, if_neg h, e]
theorem cutAll_free (b : UInt8) : ∀ l, ∀ p ∈ cutAll b l, ∀ c ∈ p, c ≠ b
  | [] => by simp [cutAll]
  | x :: t => by
    have ih := cutAll_free b t
    by_cases h : x = b
    · subst h
      rw [cutAll_hit]
      intro p hp
      rcases List.mem_cons.1 hp with rfl | hp
      · simp
      · exact ih p hp
    · cases e : cutAll b t with
      | nil => exact absurd e (cutAll_ne b t)
      | cons a r =>
        rw [cutAll_miss h e]
        rw [e] at ih
        intro p hp
        rcases List.mem_cons.1 hp with rfl | hp
        · intro c hc
          rcases List.mem_cons.1 hc with rfl | hc
          · exact h
          · exact ih a (by simp) c hc
        · exact ih p (by simp [hp])
theorem join_cutAll (b : UInt8) : ∀ l, Lib.join (cutAll b l) [b] = l
  | [] => by rw [cutAll, Lib.join_one]
  | x :: t => by
    have ih := join_cutAll b t
    by_cases h : x = b
    · subst h
      rw [cutAll_hit]
      cases e : cutAll x t with
      | nil => exact absurd e (cutAll_ne x t)
      | cons a r => rw [joinC_more, ← e, ih]; rfl
    · cases e : cutAll b t with
      | nil => exact absurd e (cutAll_ne b t)
      | cons a r =>
        rw [cutAll_miss h e]
        rw [e] at ih
        cases r with
        | nil => rw [Lib.join_one] at ih ⊢; rw [ih]
        | cons y r => rw [joinC_more] at ih ⊢; rw [List.cons_append, ih]
theorem cutAll_join (b : UInt8) (ws : List (List UInt8)) (h0 : ws ≠ []) (h : ∀ l ∈ ws, ∀ c ∈ l, c ≠ b) : cutAll b (Lib.join ws [b]) = ws := by
  have h1 := (split_joinC b ws h0 h).2
  have h2 := (split_joinC b (cutAll b (Lib.join ws [b])) (cutAll_ne _ _) (cutAll_free _ _)).2
  rw [join_cutAll] at h2
  rw [← h2, h1]
theorem cutAll_len (b : UInt8) : ∀ l, (cutAll b l).length ≤ l.length + 1
  | [] => by simp [cutAll]
  | x :: t => by
    have ih := cutAll_len b t
    by_cases h : x = b
    · subst h; rw [cutAll_hit]; simp; omega
    · cases e : cutAll b t with
      | nil => exact absurd e (cutAll_ne b t)
      | cons a r => rw [cutAll_miss h e]; rw [e] at ih; simp at ih ⊢; omega
theorem cutAll_piece (b : UInt8) : ∀ l, ∀ p ∈ cutAll b l, p.length ≤ l.length
  | [] => by simp [cutAll]
  | x :: t => by
    have ih := cutAll_piece b t
    by_cases h : x = b
    · subst h
      rw [cutAll_hit]
      intro p hp
      rcases List.mem_cons.1 hp with rfl | hp
      · simp
      · have := ih p hp; simp; omega
    · cases e : cutAll b t with
      | nil => exact absurd e (cutAll_ne b t)
      | cons a r =>
        rw [cutAll_miss h e]
        rw [e] at ih
        intro p hp
        rcases List.mem_cons.1 hp with rfl | hp
        · have := ih a (by simp); simp; omega
        · have := ih p (by simp [hp]); simp; omega

theorem splitAt_any (b : UInt8) (s : List UInt8) (m : Int) (w : World) (hs : s.length < 4294967281) (hm : w.cell? ⟨2, 0, Option.none⟩ = some (.int .i64 m)) :
    Calls Tryz.prog 55 #[.string ⟨s.toArray⟩, .string ⟨#[b]⟩] w fun e w' => ∃ B, e = .returned (.slice (some ⟨B, 0, Option.none⟩) (cutAll b s).length (cutAll b s).length) ∧ TextsAt w' B (cutAll b s) ∧ Below w.heap.size w w' := by
  obtain ⟨h1, h2⟩ := splitB_joinC b (cutAll b s) (cutAll_ne b s) (cutAll_free b s)
  rw [join_cutAll] at h1 h2
  refine (split_run s [b] m w hs hm (by simp)).mono fun e w' ⟨he, hw⟩ => ⟨w.heap.size, ?_, ?_, ?_⟩
  · rw [he]
    show Ending.returned (.slice _ (Lib.countB ⟨s.toArray⟩ ⟨#[b]⟩ + 1) (Lib.countB ⟨s.toArray⟩ ⟨#[b]⟩ + 1)) = _
    rw [h1]
  · have hw' : w' = w.alloc (.cells (((cutAll b s).map (fun l => (⟨l.toArray⟩ : ByteArray))).map Value.string).toArray 9) := by rw [← h2]; exact hw
    rw [hw']
    have hc := Cells.new w 9 (((cutAll b s).map (fun l => (⟨l.toArray⟩ : ByteArray))).map Value.string).toArray
    refine ⟨hc.lt, fun k hk => ?_⟩
    have := hc.cell k
    rw [this]
    simp [List.getElem?_map, List.getElem?_eq_getElem hk]
  · rw [hw]; exact (Below.refl _ _).alloc (Nat.le_refl _) _

end Go.Proofs.YteenfcmnmenigaaGreatDoor

namespace Go.Proofs.YteenfcmnmenigaaGreatDoor
open Go.RowKit Go.Lib

/-- The value of a word. -/
def valW (l : List UInt8) : Int := if Lib.hasPrefix l [45] then -((dval 0 (l.drop 1) : Nat) : Int) else ((dval 0 l : Nat) : Int)
theorem canW_itoa {l : List UInt8} (h : canW l = true) : l = itoa (valW l) := by
  unfold canW canWd at h
  rw [Bool.and_eq_true] at h
  obtain ⟨hd, hr⟩ := h
  by_cases h48 : l = [48]
  · subst h48
    rw [show valW [48] = ((0 : Nat) : Int) by unfold valW; rw [if_neg (by decide), dval_cons, dval_nil, dgv_eq]; rfl, itoa_nat, dec_small (by omega)]
    rfl
  · rw [show (l == [48]) = false by simpa using h48, Bool.false_or, Bool.and_eq_true] at hr
    obtain ⟨hne, h0⟩ := hr
    have h0' := of_decide_eq_true h0
    have hcn : ∀ d : List UInt8, d.all digB = true → d.isEmpty = false → (d[0]?.getD 0).toNat ≠ 48 → d = decDigits (dval 0 d) ∧ 0 < dval 0 d := by
      intro d hd hne h0
      have hcb : canonB d = true := by
        refine canon_good hd ?_
        cases d with
        | nil => cases hne
        | cons c t =>
          cases t with
          | nil => exact .inl rfl
          | cons _ _ => exact .inr ⟨by simp, h0⟩
      obtain ⟨n, hn⟩ := (canonB_iff _).1 hcb
      have hv : dval 0 d = n := by rw [hn, dval_dec]
      rw [hv]
      refine ⟨hn, ?_⟩
      rcases Nat.eq_zero_or_pos n with hz | hz
      · subst hz
        rw [dec_small (by omega)] at hn
        rw [hn] at h0
        exact absurd rfl h0
      · exact hz
    unfold valW
    cases hp : Lib.hasPrefix l [45] with
    | false =>
      rw [trim_no hp] at hd hne h0'
      rw [if_neg (by decide), itoa_nat]
      exact (hcn l hd (by simpa using hne) h0').1
    | true =>
      rw [if_pos rfl]
      have e : Lib.trimPrefix l [45] = l.drop 1 := by unfold Lib.trimPrefix; rw [hp]; rfl
      rw [e] at hd hne h0'
      obtain ⟨e2, hpos⟩ := hcn _ hd (by simpa using hne) h0'
      rw [itoa_neg _ hpos, ← e2]
      unfold Lib.hasPrefix at hp
      cases l with
      | nil => cases hp
      | cons c t =>
        simp [List.isPrefixOf] at hp
        rw [← hp]; rfl

theorem atoi_any (z : Int) (w : World) (h1 : -9223372036854775808 ≤ z) (h2 : z ≤ 9223372036854775807) (hl : (itoa z).length ≤ 100000) :
    Calls Tryz.prog 56 #[.string ⟨(itoa z).toArray⟩] w fun e w' => e = .returned (.tuple #[.int .i64 z, .nilIface]) ∧ Below w.heap.size w w' :=
  (Tryz.strconv_Atoi_ok ⟨(itoa z).toArray⟩ (by simp [ByteArray.size]; omega) z (by simpa using atoi_itoa z h1 h2) w).mono fun _ _ ⟨h, hw⟩ => ⟨h, bytes_below' hw⟩

theorem parse_over (l : List UInt8) : ∀ acc, (∀ c ∈ l, isDig c) → acc < 18446744073709551616 → 18446744073709551616 ≤ dval acc l → parseUint10 acc l = .range := by
  induction l with
  | nil => intro acc _ h1 h2; rw [dval_nil] at h2; omega
  | cons c l ih =>
    intro acc hd ha hb
    have hc := hd c (by simp)
    have hc2 := dgv_lt hc
    simp only [dval_cons] at hb
    simp only [parseUint10]
    rw [← dgv_eq]
    rw [if_pos (show 48 ≤ c.toNat ∧ c.toNat ≤ 57 from hc), Nat.mul_comm acc 10]
    by_cases h1 : 1844674407370955162 ≤ acc
    · rw [if_pos (by omega)]
    · rw [if_neg (by omega)]
      by_cases h2 : 18446744073709551616 ≤ 10 * acc + dgv c
      · rw [if_pos (by omega)]
      · rw [if_neg (by omega)]
        exact ih _ (fun x hx => hd x (by simp [hx])) (by omega) hb

theorem parseMag_over {n : Nat} (h : 18446744073709551616 ≤ n) : parseMag (decDigits n) = .range := by
  unfold parseMag
  rw [if_neg (dec_ne_nil n), parse_over _ 0 (dec_dig n) (by omega) (by rw [dval_dec]; exact h)]

theorem atoi_over {z : Int} (h : z < -9223372036854775808 ∨ 9223372036854775807 < z) : atoiAll (itoa z) = .range := by
  rcases itoa_cases z with ⟨hz, e⟩ | ⟨hz, e⟩
  · rw [e]
    simp only [atoiAll]
    simp only [show (45 : UInt8).toNat = 45 from rfl, or_true, if_true]
    by_cases h64 : z.natAbs < 18446744073709551616
    · rw [parseMag_dec h64]
      simp only []
      rw [if_neg (by simp), if_pos (by simp; omega)]
    · rw [parseMag_over (by omega)]
  · rw [e]
    have hd := dec_dig z.natAbs
    have hm : parseMag (decDigits z.natAbs) = .range ∨ parseMag (decDigits z.natAbs) = .ok z.natAbs := by
      by_cases h64 : z.natAbs < 18446744073709551616
      · exact .inr (parseMag_dec h64)
      · exact .inl (parseMag_over (by omega))
    generalize hl : decDigits z.natAbs = l at hm hd
    match l, hm, hd with
    | [], hm, _ => exact absurd hl (dec_ne_nil _)
    | c :: r, hm, hd =>
      have hc := hd c (by simp)
      have hc2 := dgv_lt hc
      unfold isDig at hc
      simp only [atoiAll]
      rw [if_neg (by omega)]
      rcases hm with hm | hm
      · rw [hm]
      · rw [hm]
        simp only []
        rw [if_pos ⟨by omega, by omega⟩]

theorem atoi_over_any (z : Int) (w : World) (hS : Std w) (h : z < -9223372036854775808 ∨ 9223372036854775807 < z) (hl : (itoa z).length ≤ 100000) :
    Calls Tryz.prog 56 #[.string ⟨(itoa z).toArray⟩] w fun e w' => ∃ v t p, e = .returned (.tuple #[.int .i64 v, .iface t p]) ∧ Below w.heap.size w w' := by
  obtain ⟨te, pe, hc⟩ := hS.rng
  refine (Tryz.strconv_Atoi_range ⟨(itoa z).toArray⟩ (by simp [ByteArray.size]; omega) (by simpa using atoi_over h) (.iface te pe) w hc (.inr ⟨te, pe, rfl⟩)).mono ?_
  rintro e w' ⟨n, rfl, _, _, hb⟩
  exact ⟨_, _, _, rfl, hb⟩

theorem rowChk_fits {x : List Int} (h : rowChk x = 0) (k : Nat) (hk : k < x.length) : -1000000000 ≤ x[k]?.getD 0 ∧ x[k]?.getD 0 ≤ 1000000000 := by
  unfold rowChk at h
  split at h
  · cases h
  · rename_i hn
    have hn2 : x.any (fun v => !fitsB v) = false := by
      cases hx : x.any (fun v => !fitsB v) with
      | false => rfl
      | true => exact absurd (.inr hx) hn
    have h2 := List.any_eq_false.1 hn2 _ (List.getElem_mem hk)
    rw [List.getElem?_eq_getElem hk]
    unfold fitsB at h2
    simp at h2
    exact ⟨h2.1, h2.2⟩

/-- What row.Parse reads: an error, or a row and whether it is a ket. -/
inductive Rrd where
  | bad (e : Int)
  | good (x : List Int) (k : Bool)
def innerRead (l : List UInt8) (k : Bool) : Rrd :=
  if l.isEmpty then .good [] k
  else if (cutAll 32 l).any (fun l => !canW l) then .bad 15
  else if rowChk ((cutAll 32 l).map valW) = 0 then .good ((cutAll 32 l).map valW) k else .bad 4
def endRead (l : List UInt8) (k : Bool) : Rrd :=
  if Lib.hasSuffix l [if k then 62 else 93] then innerRead (Lib.trimSuffix l [if k then 62 else 93]) k else .bad 15
def rowRead (s : List UInt8) : Rrd :=
  if 65536 < s.length then .bad 16
  else if Lib.hasPrefix s [91] then endRead (Lib.trimPrefix s [91]) true
  else if Lib.hasPrefix s [60] then endRead (Lib.trimPrefix s [60]) false
  else .bad 15
/-- A slice of ints whose block is one of ints. -/
def TRow (w : World) (v : Value) (x : List Int) : Prop := ∃ A c, v = .slice A x.length c ∧ x.length ≤ c ∧ c ≤ maxLen ∧ (0 < x.length → ∃ g o cur p, A = some ⟨g, o, Option.none⟩ ∧ w.heap[g]? = some (Obj.cells cur 3 p) ∧ ∀ k, k < x.length → w.cell? ⟨g, o + k, Option.none⟩ = some (.int .i64 (x[k]?.getD 0)))
theorem TRow.isRow {w : World} {v : Value} {x : List Int} (h : TRow w v x) : IsRow w w.heap.size v x := by
  obtain ⟨A, c, rfl, h1, h2, h3⟩ := h
  refine ⟨A, c, rfl, h1, h2, by simp [is], fun k u hk => ?_⟩
  have hkl : k < x.length := by
    have := (List.getElem?_eq_some_iff.1 hk).1
    simpa [is] using this
  obtain ⟨g, o, cur, p, rfl, hg, hc⟩ := h3 (by omega)
  refine ⟨_, rfl, (Array.getElem?_eq_some_iff.1 hg).1, ?_⟩
  rw [Lib.add_plain, hc k hkl]
  unfold is at hk
  rw [List.getElem?_map, List.getElem?_eq_getElem hkl] at hk
  rw [List.getElem?_eq_getElem hkl]
  exact hk
theorem TRow.keep {w w' : World} {v : Value} {x : List Int} (h : TRow w v x) (hk : ∀ (g : Nat) (cur : Array Value) (p : Nat × Nat), w.heap[g]? = some (Obj.cells cur 3 p) → w'.heap[g]? = w.heap[g]?) : TRow w' v x := by
  obtain ⟨A, c, rfl, h1, h2, h3⟩ := h
  refine ⟨A, c, rfl, h1, h2, fun h0 => ?_⟩
  obtain ⟨g, o, cur, p, rfl, hg, hc⟩ := h3 h0
  have he := hk g cur p hg
  exact ⟨g, o, cur, p, rfl, he.trans hg, fun k hk => (World.cell?_of_block he).trans (hc k hk)⟩
theorem TRow.below {w w' : World} {v : Value} {x : List Int} (h : TRow w v x) (hb : Below w.heap.size w w') : TRow w' v x := h.keep fun _ _ _ hg => hb.block _ (Array.getElem?_eq_some_iff.1 hg).1
theorem TRow.grown {w w' : World} {v : Value} {x : List Int} (h : TRow w v x) {base n size : Nat} {e : TypeId} {u : Value} {xs : List Value} (ho : w.ownsRow base e size u n xs) (hg : w.grownBy w' u.ownBlock) (he : e ≠ 3) : TRow w' v x := h.keep fun g cur p hc => hg.block g (Array.getElem?_eq_some_iff.1 hc).1 fun hu => by
  rcases ho.2 with ⟨rfl, _⟩ | ⟨g', cap, cur', rfl, _, hg', _⟩
  · cases hu
  · injection hu with hu
    change g = g' at hu
    subst hu
    rw [hc] at hg'
    injection hg' with hg'
    injection hg' with _ hg' _
    exact he hg'.symm
theorem TRow.of_own {w : World} {base : Nat} {v : Value} {x : List Int} (h : w.ownsRow base 3 1 v x.length (is x)) : TRow w v x := by
  obtain ⟨A, c, rfl, h1, h2, hr⟩ := Row.of_own h
  refine ⟨A, c, rfl, h1, h2, fun h0 => ?_⟩
  rcases h.2 with ⟨_, hn⟩ | ⟨g, cap, cur, e, _, hg, _⟩
  · omega
  · injection e with e _ _
    subst e
    refine ⟨g, 0, cur, (0, 0), rfl, hg, fun k hk => ?_⟩
    obtain ⟨ad, e, _, hc⟩ := hr.i_at hk
    injection e with e
    subst e
    rw [Lib.add_plain] at hc
    exact hc
theorem TRow.nil (w : World) (A : Option Addr) (c : Nat) (h : c ≤ maxLen) : TRow w (.slice A 0 c) [] := ⟨A, c, rfl, Nat.zero_le _, h, fun h => absurd h (by simp)⟩

def RrdPost (w' : World) : Rrd → Ending → Prop
  | .bad er, e => e = .returned (.tuple #[.slice Option.none 0 0, .bool false, .int .i64 er])
  | .good x k, e => ∃ A c, e = .returned (.tuple #[.slice A x.length c, .bool k, .int .i64 0]) ∧ TRow w' (.slice A x.length c) x

end Go.Proofs.YteenfcmnmenigaaGreatDoor

namespace Go.Proofs.YteenfcmnmenigaaGreatDoor
open Go.RowKit Go.Lib

theorem trimPre_len (s p : List UInt8) : (Lib.trimPrefix s p).length ≤ s.length := by
  unfold Lib.trimPrefix
  split
  · rw [List.length_drop]; omega
  · exact Nat.le_refl _
theorem trimSuf_len (s p : List UInt8) : (Lib.trimSuffix s p).length ≤ s.length := by
  unfold Lib.trimSuffix
  split
  · rw [List.length_take]; omega
  · exact Nat.le_refl _

end Go.Proofs.YteenfcmnmenigaaGreatDoor
