/- A joined text is split into its words again. row.Parse of the text of a right row. row.Parse of the text of a right row: the walk. row.canonical of any text (for MonzoReads). slices.ContainsFunc over any words (for MonzoReads). strings.Split at one byte, for any text, as a plain recursion. -/
import Derived.Test.YtaiglcbgllnciaaGreatDoorGE
import Derived.Lib.Split
import Derived.Test.YtaiglcbgllnciaaGreatDoorSayG
import Derived.Test.YtaiglcbgllnciaaGreatDoorGYa
namespace Go.Proofs.YtaiglcbgllnciaaGreatDoor
open Go.RowKit Go.Lib

theorem index32_none : ∀ (l : List UInt8), (∀ c ∈ l, c ≠ 32) → Lib.index l [32] = -1
  | [], _ => rfl
  | c :: t, h => by
    have hc : c ≠ 32 := h c (by simp)
    have h1 : ([32] : List UInt8).isPrefixOf (c :: t) = false := by simp [List.isPrefixOf, Ne.symm hc]
    rw [Lib.index, h1, index32_none t (fun x hx => h x (by simp [hx]))]
    rfl
theorem index32_at : ∀ (l r : List UInt8), (∀ c ∈ l, c ≠ 32) → Lib.index (l ++ 32 :: r) [32] = l.length
  | [], r, _ => by rw [List.nil_append, Lib.index, if_pos (by simp [List.isPrefixOf])]; rfl
  | c :: t, r, h => by
    have hc : c ≠ 32 := h c (by simp)
    have h1 : ([32] : List UInt8).isPrefixOf (c :: (t ++ 32 :: r)) = false := by simp [List.isPrefixOf, Ne.symm hc]
    have h2 := index32_at t r (fun x hx => h x (by simp [hx]))
    rw [List.cons_append, Lib.index, h1, h2, if_neg (by decide), if_neg (by rw [beq_iff_eq]; omega), List.length_cons]
    rfl

theorem join_more (x y : List UInt8) (r : List (List UInt8)) : Lib.join (x :: y :: r) [32] = x ++ 32 :: Lib.join (y :: r) [32] := by
  simp [Lib.join, List.intercalate]

theorem split_join : ∀ (ws : List (List UInt8)), ws ≠ [] → (∀ l ∈ ws, ∀ c ∈ l, c ≠ 32) → Lib.count (Lib.join ws [32]) [32] + 1 = ws.length ∧ Lib.splitK [32] 0 (Lib.count (Lib.join ws [32]) [32]) (Lib.join ws [32]) = ws
  | [], h, _ => absurd rfl h
  | [x], _, h => by
    have hi := index32_none x (h x (by simp))
    rw [Lib.join_one, Lib.count_miss hi]
    exact ⟨rfl, rfl⟩
  | x :: y :: r, _, h => by
    obtain ⟨i1, i2⟩ := split_join (y :: r) (by simp) (fun l hl => h l (by simp at hl ⊢; right; exact hl))
    have hi := index32_at x (Lib.join (y :: r) [32]) (h x (by simp))
    have hdrop : (x ++ 32 :: Lib.join (y :: r) [32]).drop (x.length + 1) = Lib.join (y :: r) [32] := by
      rw [show x ++ 32 :: Lib.join (y :: r) [32] = (x ++ [32]) ++ Lib.join (y :: r) [32] by simp, List.drop_left' (by simp)]
    have hcnt : Lib.count (x ++ 32 :: Lib.join (y :: r) [32]) [32] = Lib.count (Lib.join (y :: r) [32]) [32] + 1 := by
      have := Lib.count_hit (s := x ++ 32 :: Lib.join (y :: r) [32]) (sub := [32]) (by simp) hi
      rw [this, show ([32] : List UInt8).length = 1 from rfl, hdrop]; omega
    rw [join_more, hcnt]
    refine ⟨by rw [i1]; simp, ?_⟩
    rw [Lib.splitK, hi, if_neg (by rw [beq_iff_eq]; omega), Int.toNat_natCast, show ([32] : List UInt8).length = 1 from rfl, hdrop, i2, Nat.add_zero, List.take_left' rfl]

theorem splitB_join (ws : List (List UInt8)) (h0 : ws ≠ []) (h : ∀ l ∈ ws, ∀ c ∈ l, c ≠ 32) : Lib.countB ⟨(Lib.join ws [32]).toArray⟩ ⟨#[32]⟩ + 1 = ws.length ∧ Lib.splitB ⟨#[32]⟩ 0 (Lib.countB ⟨(Lib.join ws [32]).toArray⟩ ⟨#[32]⟩) ⟨(Lib.join ws [32]).toArray⟩ = ws.map (fun l => ⟨l.toArray⟩) := by
  obtain ⟨h1, h2⟩ := split_join ws h0 h
  refine ⟨h1, ?_⟩
  have h3 := Lib.splitB_data ⟨#[32]⟩ 0 (Lib.countB ⟨(Lib.join ws [32]).toArray⟩ ⟨#[32]⟩) ⟨(Lib.join ws [32]).toArray⟩
  have h4 : (Lib.splitB ⟨#[32]⟩ 0 (Lib.countB ⟨(Lib.join ws [32]).toArray⟩ ⟨#[32]⟩) ⟨(Lib.join ws [32]).toArray⟩).map (·.data.toList) = ws := h3.trans h2
  have h5 := congrArg (List.map (fun l : List UInt8 => (⟨l.toArray⟩ : ByteArray))) h4
  rw [List.map_map] at h5
  rw [← h5]
  conv => lhs; rw [← List.map_id (Lib.splitB ⟨#[32]⟩ 0 (Lib.countB ⟨(Lib.join ws [32]).toArray⟩ ⟨#[32]⟩) ⟨(Lib.join ws [32]).toArray⟩)]
  rfl

end Go.Proofs.YtaiglcbgllnciaaGreatDoor

namespace Go.Proofs.YtaiglcbgllnciaaGreatDoor
open Go.RowKit Go.Lib

theorem trim_dash (z : Int) : Lib.trimPrefix (itoa z) [45] = decDigits z.natAbs := by
  unfold Lib.trimPrefix Lib.hasPrefix
  rcases itoa_cases z with ⟨_, e⟩ | ⟨_, e⟩
  · rw [e]; simp [List.isPrefixOf]
  · rw [e]
    obtain ⟨c, r, e2, hc, _⟩ := dec_first z.natAbs
    have h : c ≠ 45 := fun h => by subst h; simp at hc
    rw [e2, if_neg (by simp [List.isPrefixOf, Ne.symm h])]
theorem word_zero (z : Int) : (itoa z == [48]) = decide (z = 0) := itoa_zero_beq z
theorem dec_head0 (n : Nat) (h : 0 < n) : ((decDigits n)[0]?.getD 0).toNat ≠ 48 := by
  obtain ⟨c, r, e, hc⟩ := dec_head n h
  rw [e]; exact hc

/-- A slice of the words of a row, in a block of its own. -/
def WordsAt (w : World) (b : Nat) (x : List Int) : Prop := b < w.heap.size ∧ ∀ k, k < x.length → w.cell? ⟨b, k, Option.none⟩ = some (.string ⟨(itoa (x[k]?.getD 0)).toArray⟩)
theorem WordsAt.below {w w' : World} {b : Nat} {x : List Int} (h : WordsAt w b x) (hb : Below w.heap.size w w') : WordsAt w' b x :=
  ⟨Nat.lt_of_lt_of_le h.1 hb.size, fun k hk => (hb.cell h.1).trans (h.2 k hk)⟩

end Go.Proofs.YtaiglcbgllnciaaGreatDoor

namespace Go.Proofs.YtaiglcbgllnciaaGreatDoor
open Go.RowKit Go.Lib

theorem itoa_no_space (z : Int) : ∀ c ∈ itoa z, c ≠ 32 := by
  intro c hc h
  subst h
  rcases itoa_cases z with ⟨_, e⟩ | ⟨_, e⟩
  · rw [e] at hc
    rcases List.mem_cons.1 hc with h | h
    · cases h
    · have := dec_dig _ _ h; unfold isDig at this; exact absurd this.1 (by decide)
  · rw [e] at hc
    have := dec_dig _ _ hc; unfold isDig at this; exact absurd this.1 (by decide)

theorem words_space (x : List Int) : ∀ l ∈ words x, ∀ c ∈ l, c ≠ 32 := by
  intro l hl
  unfold words at hl
  obtain ⟨z, _, rfl⟩ := List.mem_map.1 hl
  exact itoa_no_space z

/-- strings.Split of the words of a row. -/
theorem split_words (x : List Int) (m : Int) (w : World) (h0 : x ≠ []) (hs : (rowTxt x).length < 4294967281) (hm : w.cell? ⟨0, 0, Option.none⟩ = some (.int .i64 m)) :
    Calls Tryz.prog 97 #[.string ⟨(rowTxt x).toArray⟩, .string ⟨#[32]⟩] w fun e w' => ∃ b, e = .returned (.slice (some ⟨b, 0, Option.none⟩) x.length x.length) ∧ WordsAt w' b x ∧ Below w.heap.size w w' := by
  have hw0 : words x ≠ [] := by unfold words; simpa using h0
  obtain ⟨h1, h2⟩ := splitB_join (words x) hw0 (words_space x)
  have hl : (words x).length = x.length := by unfold words; simp
  rw [hl] at h1
  refine (split_run (rowTxt x) [32] m w hs hm (by decide)).mono fun e w' ⟨he, hw⟩ => ⟨w.heap.size, ?_, ?_, ?_⟩
  · rw [he]
    show Ending.returned (.slice _ (Lib.countB ⟨(Lib.join (words x) [32]).toArray⟩ ⟨#[32]⟩ + 1) (Lib.countB ⟨(Lib.join (words x) [32]).toArray⟩ ⟨#[32]⟩ + 1)) = _
    rw [h1]
  · have hw' : w' = w.alloc (.cells (((words x).map (fun l => (⟨l.toArray⟩ : ByteArray))).map Value.string).toArray 9) := by rw [← h2]; exact hw
    rw [hw']
    have hc := Cells.new w 9 (((words x).map (fun l => (⟨l.toArray⟩ : ByteArray))).map Value.string).toArray
    refine ⟨hc.lt, fun k hk => ?_⟩
    have := hc.cell k
    rw [this]
    unfold words
    simp [List.getElem?_map, List.getElem?_eq_getElem hk]
  · rw [hw]; exact (Below.refl _ _).alloc (Nat.le_refl _) _

theorem suffix_cut (l : List UInt8) : Lib.hasSuffix (l ++ [62]) [62] = true ∧ Lib.trimSuffix (l ++ [62]) [62] = l := by
  have h : Lib.hasSuffix (l ++ [62]) [62] = true := by
    unfold Lib.hasSuffix
    rw [List.isSuffixOf_iff_suffix]
    exact List.suffix_append _ _
  refine ⟨h, ?_⟩
  unfold Lib.trimSuffix
  rw [if_pos h]
  simp
theorem prefix_cut (l : List UInt8) : Lib.hasPrefix (91 :: l) [91] = true ∧ Lib.trimPrefix (91 :: l) [91] = l := by
  have h : Lib.hasPrefix (91 :: l) [91] = true := by unfold Lib.hasPrefix; simp [List.isPrefixOf]
  refine ⟨h, ?_⟩
  unfold Lib.trimPrefix
  rw [if_pos h]
  rfl

theorem atoi_word (z : Int) (w : World) (h1 : -1000000 ≤ z) (h2 : z ≤ 1000000) (hl : (itoa z).length ≤ 1000) :
    Calls Tryz.prog 88 #[.string ⟨(itoa z).toArray⟩] w fun e w' => e = .returned (.tuple #[.int .i64 z, .nilIface]) ∧ Below w.heap.size w w' :=
  (Tryz.strconv_Atoi_ok ⟨(itoa z).toArray⟩ (by simp [ByteArray.size]; omega) z (by simpa using atoi_itoa z (by omega) (by omega)) w).mono fun _ _ ⟨h, hw⟩ => ⟨h, bytes_below' hw⟩

end Go.Proofs.YtaiglcbgllnciaaGreatDoor

namespace Go.Proofs.YtaiglcbgllnciaaGreatDoor
open Go.RowKit Go.Lib

/-- What canonical says of a text whose part behind the sign is d. -/
def canWd (l d : List UInt8) : Bool := d.all digB && (l == [48] || (!d.isEmpty && decide ((d[0]?.getD 0).toNat ≠ 48)))
def canW (l : List UInt8) : Bool := canWd l (Lib.trimPrefix l [45])

end Go.Proofs.YtaiglcbgllnciaaGreatDoor

namespace Go.Proofs.YtaiglcbgllnciaaGreatDoor
open Go.RowKit Go.Lib

/-- A slice of texts, in a block of its own. -/
def TextsAt (w : World) (b : Nat) (ws : List (List UInt8)) : Prop := b < w.heap.size ∧ ∀ k, k < ws.length → w.cell? ⟨b, k, Option.none⟩ = some (.string ⟨(ws[k]?.getD []).toArray⟩)
theorem TextsAt.below {w w' : World} {b : Nat} {ws : List (List UInt8)} (h : TextsAt w b ws) (hb : Below w.heap.size w w') : TextsAt w' b ws :=
  ⟨Nat.lt_of_lt_of_le h.1 hb.size, fun k hk => (hb.cell h.1).trans (h.2 k hk)⟩

end Go.Proofs.YtaiglcbgllnciaaGreatDoor

namespace Go.Proofs.YtaiglcbgllnciaaGreatDoor
open Go.RowKit Go.Lib

theorem idx1_none (b : UInt8) : ∀ (l : List UInt8), (∀ c ∈ l, c ≠ b) → Lib.index l [b] = -1
  | [], _ => rfl
  | c :: t, h => by
    have hc : c ≠ b := h c (by simp)
    have h1 : ([b] : List UInt8).isPrefixOf (c :: t) = false := by simp [List.isPrefixOf, Ne.symm hc]
    rw [Lib.index, h1, idx1_none b t (fun x hx => h x (by simp [hx]))]
    rfl
theorem idx1_at (b : UInt8) : ∀ (l r : List UInt8), (∀ c ∈ l, c ≠ b) → Lib.index (l ++ b :: r) [b] = l.length
  | [], r, _ => by rw [List.nil_append, Lib.index, if_pos (by simp [List.isPrefixOf])]; rfl
  | c :: t, r, h => by
    have hc : c ≠ b := h c (by simp)
    have h1 : ([b] : List UInt8).isPrefixOf (c :: (t ++ b :: r)) = false := by simp [List.isPrefixOf, Ne.symm hc]
    have h2 := idx1_at b t r (fun x hx => h x (by simp [hx]))
    rw [List.cons_append, Lib.index, h1, h2, if_neg (by decide), if_neg (by rw [beq_iff_eq]; omega), List.length_cons]
    rfl
theorem joinC_more (b : UInt8) (x y : List UInt8) (r : List (List UInt8)) : Lib.join (x :: y :: r) [b] = x ++ b :: Lib.join (y :: r) [b] := by
  simp [Lib.join, List.intercalate]

theorem split_joinC (b : UInt8) : ∀ (ws : List (List UInt8)), ws ≠ [] → (∀ l ∈ ws, ∀ c ∈ l, c ≠ b) → Lib.count (Lib.join ws [b]) [b] + 1 = ws.length ∧ Lib.splitK [b] 0 (Lib.count (Lib.join ws [b]) [b]) (Lib.join ws [b]) = ws
  | [], h, _ => absurd rfl h
  | [x], _, h => by
    have hi := idx1_none b x (h x (by simp))
    rw [Lib.join_one, Lib.count_miss hi]
    exact ⟨rfl, rfl⟩
  | x :: y :: r, _, h => by
    obtain ⟨i1, i2⟩ := split_joinC b (y :: r) (by simp) (fun l hl => h l (by simp at hl ⊢; right; exact hl))
    have hi := idx1_at b x (Lib.join (y :: r) [b]) (h x (by simp))
    have hdrop : (x ++ b :: Lib.join (y :: r) [b]).drop (x.length + 1) = Lib.join (y :: r) [b] := by
      rw [show x ++ b :: Lib.join (y :: r) [b] = (x ++ [b]) ++ Lib.join (y :: r) [b] by simp, List.drop_left' (by simp)]
    have hcnt : Lib.count (x ++ b :: Lib.join (y :: r) [b]) [b] = Lib.count (Lib.join (y :: r) [b]) [b] + 1 := by
      have := Lib.count_hit (s := x ++ b :: Lib.join (y :: r) [b]) (sub := [b]) (by simp) hi
      rw [this, show ([b] : List UInt8).length = 1 from rfl, hdrop]; omega
    rw [joinC_more, hcnt]
    refine ⟨by rw [i1]; simp, ?_⟩
    rw [Lib.splitK, hi, if_neg (by rw [beq_iff_eq]; omega), Int.toNat_natCast, show ([b] : List UInt8).length = 1 from rfl, hdrop, i2, Nat.add_zero, List.take_left' rfl]

theorem splitB_joinC (b : UInt8) (ws : List (List UInt8)) (h0 : ws ≠ []) (h : ∀ l ∈ ws, ∀ c ∈ l, c ≠ b) : Lib.countB ⟨(Lib.join ws [b]).toArray⟩ ⟨#[b]⟩ + 1 = ws.length ∧ Lib.splitB ⟨#[b]⟩ 0 (Lib.countB ⟨(Lib.join ws [b]).toArray⟩ ⟨#[b]⟩) ⟨(Lib.join ws [b]).toArray⟩ = ws.map (fun l => ⟨l.toArray⟩) := by
  obtain ⟨h1, h2⟩ := split_joinC b ws h0 h
  refine ⟨h1, ?_⟩
  have h3 := Lib.splitB_data ⟨#[b]⟩ 0 (Lib.countB ⟨(Lib.join ws [b]).toArray⟩ ⟨#[b]⟩) ⟨(Lib.join ws [b]).toArray⟩
  have h4 : (Lib.splitB ⟨#[b]⟩ 0 (Lib.countB ⟨(Lib.join ws [b]).toArray⟩ ⟨#[b]⟩) ⟨(Lib.join ws [b]).toArray⟩).map (·.data.toList) = ws := h3.trans h2
  have h5 := congrArg (List.map (fun l : List UInt8 => (⟨l.toArray⟩ : ByteArray))) h4
  rw [List.map_map] at h5
  rw [← h5]
  conv => lhs; rw [← List.map_id (Lib.splitB ⟨#[b]⟩ 0 (Lib.countB ⟨(Lib.join ws [b]).toArray⟩ ⟨#[b]⟩) ⟨(Lib.join ws [b]).toArray⟩)]
  rfl

/-- The pieces of a text between the bytes b. -/
def cutAll (b : UInt8) : List UInt8 → List (List UInt8)
  | [] => [[]]
  | x :: t => if x = b then [] :: cutAll b t else
    match cutAll b t with
    | [] => [[x]]
    | a :: r => (x :: a) :: r
theorem cutAll_ne (b : UInt8) : ∀ l, cutAll b l ≠ []
  | [] => by simp [cutAll]
  | x :: t => by
    unfold cutAll
    split
    · simp
    · split <;> simp
theorem cutAll_hit (b : UInt8) (t : List UInt8) : cutAll b (b :: t) = [] :: cutAll b t := by rw [cutAll, if_pos rfl]
theorem cutAll_miss {b x : UInt8} (h : x ≠ b) {t a : List UInt8} {r : List (List UInt8)} (e : cutAll b t = a :: r) : cutAll b (x :: t) = (x :: a) :: r := by rw [cutAll, if_neg h, e]
theorem cutAll_free (b : UInt8) : ∀ l, ∀ p ∈ cutAll b l, ∀ c ∈ p, c ≠ b
  | [] => by simp [cutAll]
  | x :: t => by
    have ih := cutAll_free b t
    by_cases h : x = b
    · subst h
      rw [cutAll_hit]
      intro p hp
      rcases List.mem_cons.1 hp with rfl | hp
      · simp
      · exact ih p hp
    · cases e : cutAll b t with
      | nil => exact absurd e (cutAll_ne b t)
      | cons a r =>
        rw [cutAll_miss h e]
        rw [e] at ih
        intro p hp
        rcases List.mem_cons.1 hp with rfl | hp
        · intro c hc
          rcases List.mem_cons.1 hc with rfl | hc
          · exact h
          · exact ih a (by simp) c hc
        · exact ih p (by simp [hp])
theorem join_cutAll (b : UInt8) : ∀ l, Lib.join (cutAll b l) [b] = l
  | [] => by rw [cutAll, Lib.join_one]
  | x :: t => by
    have ih := join_cutAll b t
    by_cases h : x = b
    · subst h
      rw [cutAll_hit]
      cases e : cutAll x t with
      | nil => exact absurd e (cutAll_ne x t)
      | cons a r => rw [joinC_more, ← e, ih]; rfl
    · cases e : cutAll b t with
      | nil => exact absurd e (cutAll_ne b t)
      | cons a r =>
        rw [cutAll_miss h e]
        rw [e] at ih
        cases r with
        | nil => rw [Lib.join_one] at ih ⊢; rw [ih]
        | cons y r => rw [joinC_more] at ih ⊢; rw [List.cons_append, ih]
theorem cutAll_join (b : UInt8) (ws : List (List UInt8)) (h0 : ws ≠ []) (h : ∀ l ∈ ws, ∀ c ∈ l, c ≠ b) : cutAll b (Lib.join ws [b]) = ws := by
  have h1 := (split_joinC b ws h0 h).2
  have h2 := (split_joinC b (cutAll b (Lib.join ws [b])) (cutAll_ne _ _) (cutAll_free _ _)).2
  rw [join_cutAll] at h2
  rw [← h2, h1]
theorem cutAll_len (b : UInt8) : ∀ l, (cutAll b l).length ≤ l.length + 1
  | [] => by simp [cutAll]
  | x :: t => by
    have ih := cutAll_len b t
    by_cases h : x = b
    · subst h; rw [cutAll_hit]; simp; omega
    · cases e : cutAll b t with
      | nil => exact absurd e (cutAll_ne b t)
      | cons a r => rw [cutAll_miss h e]; rw [e] at ih; simp at ih ⊢; omega
theorem cutAll_piece (b : UInt8) : ∀ l, ∀ p ∈ cutAll b l, p.length ≤ l.length
  | [] => by simp [cutAll]
  | x :: t => by
    have ih := cutAll_piece b t
    by_cases h : x = b
    · subst h
      rw [cutAll_hit]
      intro p hp
      rcases List.mem_cons.1 hp with rfl | hp
      · simp
      · have := ih p hp; simp; omega
    · cases e : cutAll b t with
      | nil => exact absurd e (cutAll_ne b t)
      | cons a r =>
        rw [cutAll_miss h e]
        rw [e] at ih
        intro p hp
        rcases List.mem_cons.1 hp with rfl | hp
        · have := ih a (by simp); simp; omega
        · have := ih p (by simp [hp]); simp; omega

theorem splitAt_any (b : UInt8) (s : List UInt8) (m : Int) (w : World) (hs : s.length < 4294967281) (hm : w.cell? ⟨0, 0, Option.none⟩ = some (.int .i64 m)) :
    Calls Tryz.prog 97 #[.string ⟨s.toArray⟩, .string ⟨#[b]⟩] w fun e w' => ∃ B, e = .returned (.slice (some ⟨B, 0, Option.none⟩) (cutAll b s).length (cutAll b s).length) ∧ TextsAt w' B (cutAll b s) ∧ Below w.heap.size w w' := by
  obtain ⟨h1, h2⟩ := splitB_joinC b (cutAll b s) (cutAll_ne b s) (cutAll_free b s)
  rw [join_cutAll] at h1 h2
  refine (split_run s [b] m w hs hm (by simp)).mono fun e w' ⟨he, hw⟩ => ⟨w.heap.size, ?_, ?_, ?_⟩
  · rw [he]
    show Ending.returned (.slice _ (Lib.countB ⟨s.toArray⟩ ⟨#[b]⟩ + 1) (Lib.countB ⟨s.toArray⟩ ⟨#[b]⟩ + 1)) = _
    rw [h1]
  · have hw' : w' = w.alloc (.cells (((cutAll b s).map (fun l => (⟨l.toArray⟩ : ByteArray))).map Value.string).toArray 9) := by rw [← h2]; exact hw
    rw [hw']
    have hc := Cells.new w 9 (((cutAll b s).map (fun l => (⟨l.toArray⟩ : ByteArray))).map Value.string).toArray
    refine ⟨hc.lt, fun k hk => ?_⟩
    have := hc.cell k
    rw [this]
    simp [List.getElem?_map, List.getElem?_eq_getElem hk]
  · rw [hw]; exact (Below.refl _ _).alloc (Nat.le_refl _) _

end Go.Proofs.YtaiglcbgllnciaaGreatDoor
