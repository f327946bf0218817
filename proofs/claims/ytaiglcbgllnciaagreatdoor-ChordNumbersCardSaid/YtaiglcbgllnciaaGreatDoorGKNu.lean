/- row.Parse of the text of a right row. slices.ContainsFunc over any words (for MonzoReads). strings.Split at one byte, for any text, as a plain recursion. row.Parse of any text: what it reads, and the walk. -/
import Derived.Test.YtaiglcbgllnciaaGreatDoorSayNu
import Derived.Test.YtaiglcbgllnciaaGreatDoorGCNu
import Derived.Test.YtaiglcbgllnciaaGreatDoorGENu
import Derived.Lib.Split
import Derived.Test.YtaiglcbgllnciaaGreatDoorFParNu
namespace Go.Proofs.YtaiglcbgllnciaaGreatDoor
open Go.RowKit Go.Lib

/-- A slice of the words of a row, in a block of its own. -/
def WordsAt (w : World) (b : Nat) (x : List Int) : Prop := b < w.heap.size ∧ ∀ k, k < x.length → w.cell? ⟨b, k, Option.none⟩ = some (.string ⟨(itoa (x[k]?.getD 0)).toArray⟩)
theorem WordsAt.below {w w' : World} {b : Nat} {x : List Int} (h : WordsAt w b x) (hb : Below w.heap.size w w') : WordsAt w' b x :=
  ⟨Nat.lt_of_lt_of_le h.1 hb.size, fun k hk => (hb.cell h.1).trans (h.2 k hk)⟩

end Go.Proofs.YtaiglcbgllnciaaGreatDoor

namespace Go.Proofs.YtaiglcbgllnciaaGreatDoor
open Go.RowKit Go.Lib

/-- A slice of texts, in a block of its own. -/
def TextsAt (w : World) (b : Nat) (ws : List (List UInt8)) : Prop := b < w.heap.size ∧ ∀ k, k < ws.length → w.cell? ⟨b, k, Option.none⟩ = some (.string ⟨(ws[k]?.getD []).toArray⟩)
theorem TextsAt.below {w w' : World} {b : Nat} {ws : List (List UInt8)} (h : TextsAt w b ws) (hb : Below w.heap.size w w') : TextsAt w' b ws :=
  ⟨Nat.lt_of_lt_of_le h.1 hb.size, fun k hk => (hb.cell h.1).trans (h.2 k hk)⟩

end Go.Proofs.YtaiglcbgllnciaaGreatDoor

namespace Go.Proofs.YtaiglcbgllnciaaGreatDoor
open Go.RowKit Go.Lib

theorem idx1_none (b : UInt8) : ∀ (l : List UInt8), (∀ c ∈ l, c ≠ b) → Lib.index l [b] = -1
  | [], _ => rfl
  | c :: t, h => by
    have hc : c ≠ b := h c (by simp)
    have h1 : ([b] : List UInt8).isPrefixOf (c :: t) = false := by simp [List.isPrefixOf, Ne.symm hc]
    rw [Lib.index, h1, idx1_none b t (fun x hx => h x (by simp [hx]))]
    rfl
theorem idx1_at (b : UInt8) : ∀ (l r : List UInt8), (∀ c ∈ l, c ≠ b) → Lib.index (l ++ b :: r) [b] = l.length
  | [], r, _ => by rw [List.nil_append, Lib.index, if_pos (by simp [List.isPrefixOf])]; rfl
  | c :: t, r, h => by
    have hc : c ≠ b := h c (by simp)
    have h1 : ([b] : List UInt8).isPrefixOf (c :: (t ++ b :: r)) = false := by simp [List.isPrefixOf, Ne.symm hc]
    have h2 := idx1_at b t r (fun x hx => h x (by simp [hx]))
    rw [List.cons_append, Lib.index, h1, h2, if_neg (by decide), if_neg (by rw [beq_iff_eq]; omega), List.length_cons]
    rfl
theorem joinC_more (b : UInt8) (x y : List UInt8) (r : List (List UInt8)) : Lib.join (x :: y :: r) [b] = x ++ b :: Lib.join (y :: r) [b] := by
  simp [Lib.join, List.intercalate]

theorem split_joinC (b : UInt8) : ∀ (ws : List (List UInt8)), ws ≠ [] → (∀ l ∈ ws, ∀ c ∈ l, c ≠ b) → Lib.count (Lib.join ws [b]) [b] + 1 = ws.length ∧ Lib.splitK [b] 0 (Lib.count (Lib.join ws [b]) [b]) (Lib.join ws [b]) = ws
  | [], h, _ => absurd rfl h
  | [x], _, h => by
    have hi := idx1_none b x (h x (by simp))
    rw [Lib.join_one, Lib.count_miss hi]
    exact ⟨rfl, rfl⟩
  | x :: y :: r, _, h => by
    obtain ⟨i1, i2⟩ := split_joinC b (y :: r) (by simp) (fun l hl => h l (by simp at hl ⊢; right; exact hl))
    have hi := idx1_at b x (Lib.join (y :: r) [b]) (h x (by simp))
    have hdrop : (x ++ b :: Lib.join (y :: r) [b]).drop (x.length + 1) = Lib.join (y :: r) [b] := by
      rw [show x ++ b :: Lib.join (y :: r) [b] = (x ++ [b]) ++ Lib.join (y :: r) [b] by simp, List.drop_left' (by simp)]
    have hcnt : Lib.count (x ++ b :: Lib.join (y :: r) [b]) [b] = Lib.count (Lib.join (y :: r) [b]) [b] + 1 := by
      have := Lib.count_hit (s := x ++ b :: Lib.join (y :: r) [b]) (sub := [b]) (by simp) hi
      rw [this, show ([b] : List UInt8).length = 1 from rfl, hdrop]; omega
    rw [joinC_more, hcnt]
    refine ⟨by rw [i1]; simp, ?_⟩
    rw [Lib.splitK, hi, if_neg (by rw [beq_iff_eq]; omega), Int.toNat_natCast, show ([b] : List UInt8).length = 1 from rfl, hdrop, i2, Nat.add_zero, List.take_left' rfl]

theorem splitB_joinC (b : UInt8) (ws : List (List UInt8)) (h0 : ws ≠ []) (h : ∀ l ∈ ws, ∀ c ∈ l, c ≠ b) : Lib.countB ⟨(Lib.join ws [b]).toArray⟩ ⟨#[b]⟩ + 1 = ws.length ∧ Lib.splitB ⟨#[b]⟩ 0 (Lib.countB ⟨(Lib.join ws [b]).toArray⟩ ⟨#[b]⟩) ⟨(Lib.join ws [b]).toArray⟩ = ws.map (fun l => ⟨l.toArray⟩) := by
  obtain ⟨h1, h2⟩ := split_joinC b ws h0 h
  refine ⟨h1, ?_⟩
  have h3 := Lib.splitB_data ⟨#[b]⟩ 0 (Lib.countB ⟨(Lib.join ws [b]).toArray⟩ ⟨#[b]⟩) ⟨(Lib.join ws [b]).toArray⟩
  have h4 : (Lib.splitB ⟨#[b]⟩ 0 (Lib.countB ⟨(Lib.join ws [b]).toArray⟩ ⟨#[b]⟩) ⟨(Lib.join ws [b]).toArray⟩).map (·.data.toList) = ws := h3.trans h2
  have h5 := congrArg (List.map (fun l : List UInt8 => (⟨l.toArray⟩ : ByteArray))) h4
  rw [List.map_map] at h5
  rw [← h5]
  conv => lhs; rw [← List.map_id (Lib.splitB ⟨#[b]⟩ 0 (Lib.countB ⟨(Lib.join ws [b]).toArray⟩ ⟨#[b]⟩) ⟨(Lib.join ws [b]).toArray⟩)]
  rfl

/-- The pieces of a text between the bytes b. -/
def cutAll (b : UInt8) : List UInt8 → List (List UInt8)
  | [] => [[]]
  | x :: t => if x = b then [] :: cutAll b t else
    match cutAll b t with
    | [] => [[x]]
    | a :: r => (x :: a) :: r
theorem cutAll_ne (b : UInt8) : ∀ l, cutAll b l ≠ []
  | [] => by simp [cutAll]
  | x :: t => by
    unfold cutAll
    split
    · simp
    · split <;> simp
theorem cutAll_hit (b : UInt8) (t : List UInt8) : cutAll b (b :: t) = [] :: cutAll b t := by rw [cutAll, if_pos rfl]
theorem cutAll_miss {b x : UInt8} (h : x ≠ b) {t a : List UInt8} {r : List (List UInt8)} (e : cutAll b t = a :: r) : cutAll b (x :: t) = (x :: a) :: r := by rw [cutAll, if_neg h, e]
theorem cutAll_free (b : UInt8) : ∀ l, ∀ p ∈ cutAll b l, ∀ c ∈ p, c ≠ b
  | [] => by simp [cutAll]
  | x :: t => by
    have ih := cutAll_free b t
    by_cases h : x = b
    · subst h
      rw [cutAll_hit]
      intro p hp
      rcases List.mem_cons.1 hp with rfl | hp
      · simp
      · exact ih p hp
    · cases e : cutAll b t with
      | nil => exact absurd e (cutAll_ne b t)
      | cons a r =>
        rw [cutAll_miss h e]
        rw [e] at ih
        intro p hp
        rcases List.mem_cons.1 hp with rfl | hp
        · intro c hc
          rcases List.mem_cons.1 hc with rfl | hc
          · exact h
          · exact ih a (by simp) c hc
        · exact ih p (by simp [hp])
theorem join_cutAll (b : UInt8) : ∀ l, Lib.join (cutAll b l) [b] = l
  | [] => by rw [cutAll, Lib.join_one]
  | x :: t => by
    have ih := join_cutAll b t
    by_cases h : x = b
    · subst h
      rw [cutAll_hit]
      cases e : cutAll x t with
      | nil => exact absurd e (cutAll_ne x t)
      | cons a r => rw [joinC_more, ← e, ih]; rfl
    · cases e : cutAll b t with
      | nil => exact absurd e (cutAll_ne b t)
      | cons a r =>
        rw [cutAll_miss h e]
        rw [e] at ih
        cases r with
        | nil => rw [Lib.join_one] at ih ⊢; rw [ih]
        | cons y r => rw [joinC_more] at ih ⊢; rw [List.cons_append, ih]
theorem cutAll_join (b : UInt8) (ws : List (List UInt8)) (h0 : ws ≠ []) (h : ∀ l ∈ ws, ∀ c ∈ l, c ≠ b) : cutAll b (Lib.join ws [b]) = ws := by
  have h1 := (split_joinC b ws h0 h).2
  have h2 := (split_joinC b (cutAll b (Lib.join ws [b])) (cutAll_ne _ _) (cutAll_free _ _)).2
  rw [join_cutAll] at h2
  rw [← h2, h1]
theorem cutAll_len (b : UInt8) : ∀ l, (cutAll b l).length ≤ l.length + 1
  | [] => by simp [cutAll]
  | x :: t => by
    have ih := cutAll_len b t
    by_cases h : x = b
    · subst h; rw [cutAll_hit]; simp; omega
    · cases e : cutAll b t with
      | nil => exact absurd e (cutAll_ne b t)
      | cons a r => rw [cutAll_miss h e]; rw [e] at ih; simp at ih ⊢; omega
theorem cutAll_piece (b : UInt8) : ∀ l, ∀ p ∈ cutAll b l, p.length ≤ l.length
  | [] => by simp [cutAll]
  | x :: t => by
    have ih := cutAll_piece b t
    by_cases h : x = b
    · subst h
      rw [cutAll_hit]
      intro p hp
      rcases List.mem_cons.1 hp with rfl | hp
      · simp
      · have := ih p hp; simp; omega
    · cases e : cutAll b t with
      | nil => exact absurd e (cutAll_ne b t)
      | cons a r =>
        rw [cutAll_miss h e]
        rw [e] at ih
        intro p hp
        rcases List.mem_cons.1 hp with rfl | hp
        · have := ih a (by simp); simp; omega
        · have := ih p (by simp [hp]); simp; omega

theorem splitAt_any (b : UInt8) (s : List UInt8) (m : Int) (w : World) (hs : s.length < 4294967281) (hm : w.cell? ⟨0, 0, Option.none⟩ = some (.int .i64 m)) :
    Calls Tryz.prog 97 #[.string ⟨s.toArray⟩, .string ⟨#[b]⟩] w fun e w' => ∃ B, e = .returned (.slice (some ⟨B, 0, Option.none⟩) (cutAll b s).length (cutAll b s).length) ∧ TextsAt w' B (cutAll b s) ∧ Below w.heap.size w w' := by
  obtain ⟨h1, h2⟩ := splitB_joinC b (cutAll b s) (cutAll_ne b s) (cutAll_free b s)
  rw [join_cutAll] at h1 h2
  refine (split_run s [b] m w hs hm (by simp)).mono fun e w' ⟨he, hw⟩ => ⟨w.heap.size, ?_, ?_, ?_⟩
  · rw [he]
    show Ending.returned (.slice _ (Lib.countB ⟨s.toArray⟩ ⟨#[b]⟩ + 1) (Lib.countB ⟨s.toArray⟩ ⟨#[b]⟩ + 1)) = _
    rw [h1]
  · have hw' : w' = w.alloc (.cells (((cutAll b s).map (fun l => (⟨l.toArray⟩ : ByteArray))).map Value.string).toArray 9) := by rw [← h2]; exact hw
    rw [hw']
    have hc := Cells.new w 9 (((cutAll b s).map (fun l => (⟨l.toArray⟩ : ByteArray))).map Value.string).toArray
    refine ⟨hc.lt, fun k hk => ?_⟩
    have := hc.cell k
    rw [this]
    simp [List.getElem?_map, List.getElem?_eq_getElem hk]
  · rw [hw]; exact (Below.refl _ _).alloc (Nat.le_refl _) _

end Go.Proofs.YtaiglcbgllnciaaGreatDoor

namespace Go.Proofs.YtaiglcbgllnciaaGreatDoor
open Go.RowKit Go.Lib

/-- What row.Parse reads: an error, or a row and whether it is a ket. -/
inductive Rrd where
  | bad (e : Int)
  | good (x : List Int) (k : Bool)
/-- A slice of ints whose block is one of ints. -/
def TRow (w : World) (v : Value) (x : List Int) : Prop := ∃ A c, v = .slice A x.length c ∧ x.length ≤ c ∧ c ≤ maxLen ∧ (0 < x.length → ∃ g o cur p, A = some ⟨g, o, Option.none⟩ ∧ w.heap[g]? = some (Obj.cells cur 3 p) ∧ ∀ k, k < x.length → w.cell? ⟨g, o + k, Option.none⟩ = some (.int .i64 (x[k]?.getD 0)))
theorem TRow.isRow {w : World} {v : Value} {x : List Int} (h : TRow w v x) : IsRow w w.heap.size v x := by
  obtain ⟨A, c, rfl, h1, h2, h3⟩ := h
  refine ⟨A, c, rfl, h1, h2, by simp [is], fun k u hk => ?_⟩
  have hkl : k < x.length := by
    have := (List.getElem?_eq_some_iff.1 hk).1
    simpa [is] using this
  obtain ⟨g, o, cur, p, rfl, hg, hc⟩ := h3 (by omega)
  refine ⟨_, rfl, (Array.getElem?_eq_some_iff.1 hg).1, ?_⟩
  rw [Lib.add_plain, hc k hkl]
  unfold is at hk
  rw [List.getElem?_map, List.getElem?_eq_getElem hkl] at hk
  rw [List.getElem?_eq_getElem hkl]
  exact hk
theorem TRow.keep {w w' : World} {v : Value} {x : List Int} (h : TRow w v x) (hk : ∀ (g : Nat) (cur : Array Value) (p : Nat × Nat), w.heap[g]? = some (Obj.cells cur 3 p) → w'.heap[g]? = w.heap[g]?) : TRow w' v x := by
  obtain ⟨A, c, rfl, h1, h2, h3⟩ := h
  refine ⟨A, c, rfl, h1, h2, fun h0 => ?_⟩
  obtain ⟨g, o, cur, p, rfl, hg, hc⟩ := h3 h0
  have he := hk g cur p hg
  exact ⟨g, o, cur, p, rfl, he.trans hg, fun k hk => (World.cell?_of_block he).trans (hc k hk)⟩
theorem TRow.below {w w' : World} {v : Value} {x : List Int} (h : TRow w v x) (hb : Below w.heap.size w w') : TRow w' v x := h.keep fun _ _ _ hg => hb.block _ (Array.getElem?_eq_some_iff.1 hg).1
theorem TRow.grown {w w' : World} {v : Value} {x : List Int} (h : TRow w v x) {base n size : Nat} {e : TypeId} {u : Value} {xs : List Value} (ho : w.ownsRow base e size u n xs) (hg : w.grownBy w' u.ownBlock) (he : e ≠ 3) : TRow w' v x := h.keep fun g cur p hc => hg.block g (Array.getElem?_eq_some_iff.1 hc).1 fun hu => by
  rcases ho.2 with ⟨rfl, _⟩ | ⟨g', cap, cur', rfl, _, hg', _⟩
  · cases hu
  · injection hu with hu
    change g = g' at hu
    subst hu
    rw [hc] at hg'
    injection hg' with hg'
    injection hg' with _ hg' _
    exact he hg'.symm
theorem TRow.of_own {w : World} {base : Nat} {v : Value} {x : List Int} (h : w.ownsRow base 3 1 v x.length (is x)) : TRow w v x := by
  obtain ⟨A, c, rfl, h1, h2, hr⟩ := Row.of_own h
  refine ⟨A, c, rfl, h1, h2, fun h0 => ?_⟩
  rcases h.2 with ⟨_, hn⟩ | ⟨g, cap, cur, e, _, hg, _⟩
  · omega
  · injection e with e _ _
    subst e
    refine ⟨g, 0, cur, (0, 0), rfl, hg, fun k hk => ?_⟩
    obtain ⟨ad, e, _, hc⟩ := hr.i_at hk
    injection e with e
    subst e
    rw [Lib.add_plain] at hc
    exact hc
theorem TRow.nil (w : World) (A : Option Addr) (c : Nat) (h : c ≤ maxLen) : TRow w (.slice A 0 c) [] := ⟨A, c, rfl, Nat.zero_le _, h, fun h => absurd h (by simp)⟩

end Go.Proofs.YtaiglcbgllnciaaGreatDoor
