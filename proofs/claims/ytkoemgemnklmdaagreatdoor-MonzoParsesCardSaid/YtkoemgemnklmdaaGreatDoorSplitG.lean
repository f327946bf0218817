/- A joined text is split into its words again. -/
import Derived.Test.YtkoemgemnklmdaaGreatDoorGE
import Derived.Lib.Split
namespace Go.Proofs.YtkoemgemnklmdaaGreatDoor
open Go.RowKit Go.Lib

theorem index32_none : ∀ (l : List UInt8), (∀ c ∈ l, c ≠ 32) → Lib.index l [32] = -1
  | [], _ => rfl
  | c :: t, h => by
    have hc : c ≠ 32 := h c (by simp)
    have h1 : ([32] : List UInt8).isPrefixOf (c :: t) = false := by simp [List.isPrefixOf, Ne.symm hc]
    rw [Lib.index, h1, index32_none t (fun x hx => h x (by simp [hx]))]
    rfl
theorem index32_at : ∀ (l r : List UInt8), (∀ c ∈ l, c ≠ 32) → Lib.index (l ++ 32 :: r) [32] = l.length
  | [], r, _ => by rw [List.nil_append, Lib.index, if_pos (by simp [List.isPrefixOf])]; rfl
  | c :: t, r, h => by
    have hc : c ≠ 32 := h c (by simp)
    have h1 : ([32] : List UInt8).isPrefixOf (c :: (t ++ 32 :: r)) = false := by simp [List.isPrefixOf, Ne.symm hc]
    have h2 := index32_at t r (fun x hx => h x (by simp [hx]))
    rw [List.cons_append, Lib.index, h1, h2, if_neg (by decide), if_neg (by rw [beq_iff_eq]; omega), List.length_cons]
    rfl

theorem join_more (x y : List UInt8) (r : List (List UInt8)) : Lib.join (x :: y :: r) [32] = x ++ 32 :: Lib.join (y :: r) [32] := by
  simp [Lib.join, List.intercalate]

theorem split_join : ∀ (ws : List (List UInt8)), ws ≠ [] → (∀ l ∈ ws, ∀ c ∈ l, c ≠ 32) → Lib.count (Lib.join ws [32]) [32] + 1 = ws.length ∧ Lib.splitK [32] 0 (Lib.count (Lib.join ws [32]) [32]) (Lib.join ws [32]) = ws
  | [], h, _ => absurd rfl h
  | [x], _, h => by
    have hi := index32_none x (h x (by simp))
    rw [Lib.join_one, Lib.count_miss hi]
    exact ⟨rfl, rfl⟩
  | x :: y :: r, _, h => by
    obtain ⟨i1, i2⟩ := split_join (y :: r) (by simp) (fun l hl => h l (by simp at hl ⊢; right; exact hl))
    have hi := index32_at x (Lib.join (y :: r) [32]) (h x (by simp))
    have hdrop : (x ++ 32 :: Lib.join (y :: r) [32]).drop (x.length + 1) = Lib.join (y :: r) [32] := by
      rw [show x ++ 32 :: Lib.join (y :: r) [32] = (x ++ [32]) ++ Lib.join (y :: r) [32] by simp, List.drop_left' (by simp)]
    have hcnt : Lib.count (x ++ 32 :: Lib.join (y :: r) [32]) [32] = Lib.count (Lib.join (y :: r) [32]) [32] + 1 := by
      have := Lib.count_hit (s := x ++ 32 :: Lib.join (y :: r) [32]) (sub := [32]) (by simp) hi
      rw [this, show ([32] : List UInt8).length = 1 from rfl, hdrop]; omega
    rw [join_more, hcnt]
    refine ⟨by rw [i1]; simp, ?_⟩
    rw [Lib.splitK, hi, if_neg (by rw [beq_iff_eq]; omega), Int.toNat_natCast, show ([32] : List UInt8).length = 1 from rfl, hdrop, i2, Nat.add_zero, List.take_left' rfl]

theorem splitB_join (ws : List (List UInt8)) (h0 : ws ≠ []) (h : ∀ l ∈ ws, ∀ c ∈ l, c ≠ 32) : Lib.countB ⟨(Lib.join ws [32]).toArray⟩ ⟨#[32]⟩ + 1 = ws.length ∧ Lib.splitB ⟨#[32]⟩ 0 (Lib.countB ⟨(Lib.join ws [32]).toArray⟩ ⟨#[32]⟩) ⟨(Lib.join ws [32]).toArray⟩ = ws.map (fun l => ⟨l.toArray⟩) := by
  obtain ⟨h1, h2⟩ := split_join ws h0 h
  refine ⟨h1, ?_⟩
  have h3 := Lib.splitB_data ⟨#[32]⟩ 0 (Lib.countB ⟨(Lib.join ws [32]).toArray⟩ ⟨#[32]⟩) ⟨(Lib.join ws [32]).toArray⟩
  have h4 : (Lib.splitB ⟨#[32]⟩ 0 (Lib.countB ⟨(Lib.join ws [32]).toArray⟩ ⟨#[32]⟩) ⟨(Lib.join ws [32]).toArray⟩).map (·.data.toList) = ws := h3.trans h2
  have h5 := congrArg (List.map (fun l : List UInt8 => (⟨l.toArray⟩ : ByteArray))) h4
  rw [List.map_map] at h5
  rw [← h5]
  conv => lhs; rw [← List.map_id (Lib.splitB ⟨#[32]⟩ 0 (Lib.countB ⟨(Lib.join ws [32]).toArray⟩ ⟨#[32]⟩) ⟨(Lib.join ws [32]).toArray⟩)]
  rfl

end Go.Proofs.YtkoemgemnklmdaaGreatDoor
