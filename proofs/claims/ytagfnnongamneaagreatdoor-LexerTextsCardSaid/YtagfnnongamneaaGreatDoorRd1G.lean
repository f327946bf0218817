/- fraction.Parse of any text of at most 400 bytes. -/
import Derived.Test.YtagfnnongamneaaGreatDoorGL
import Derived.Test.YtagfnnongamneaaGreatDoorIdxG
import Derived.Shelf.Strings.IndexAnyAll
namespace Go.Proofs.YtagfnnongamneaaGreatDoor
open Go.RowKit Go.Lib

theorem Tryz.info_set : (Tryz.prog.info? 159).map (fun i => (i.zero, i.size)) = some (some (.agg (Array.replicate 256 (.bool false))), 256) := by kernel_rfl

theorem indexAny_long (s : List UInt8) (w : World) (h8 : 8 < s.length) (hl : s.length ≤ 1000000) :
    Calls Tryz.prog 76 #[.string ⟨s.toArray⟩, .string ⟨#[47, 46]⟩] w fun e w' => e = .returned (.int .i64 (Lib.indexAny s [47, 46])) ∧ Below w.heap.size w w' := by
  refine (Tryz.strings_IndexAny_long (zero_of_info Tryz.info_set).1 ⟨s.toArray⟩ ⟨#[47, 46]⟩ w (by decide) (by simpa [ByteArray.size] using h8) (by simp [ByteArray.size]; omega) (by decide) (by
    intro j b hb
    have hm := List.mem_of_getElem? hb
    simp at hm
    rcases hm with rfl | rfl <;> decide)).mono ?_
  rintro e w' ⟨rfl, rfl⟩
  exact ⟨rfl, ((Below.refl _ _).alloc (Nat.le_refl _) _).alloc (by simp) _⟩

theorem idx_any (t : List UInt8) (hl : t.length ≤ 400) : ∃ k : Int, IdxIs t k ∧ (k = -1 ∨ ∃ j : Nat, k = j ∧ j < t.length ∧ (t[j]?.getD 0 = 47 ∨ t[j]?.getD 0 = 46)) := by
  by_cases h8 : t.length ≤ 8
  · exact ⟨_, fun W => indexAny_short t W h8, idxR_place _ _ _⟩
  · exact ⟨_, fun W => indexAny_long t W (by omega) (by omega), indexAny_place t⟩

theorem okDig_no {l : List UInt8} {x : UInt8} (hx : x ∈ l) (h : 128 ≤ x.toNat) : okDig l = false := by
  cases ho : okDig l with
  | false => rfl
  | true =>
    have h1 := List.all_eq_true.1 (okDig_all ho).2 x hx
    have h2 : 48 ≤ x.toNat ∧ x.toNat ≤ 57 := of_decide_eq_true h1
    omega
theorem fracRead_junk {t : List UInt8} {k : Int} {x : UInt8} (hx : x ∈ t) (h : 128 ≤ x.toNat) (hk : k = -1 ∨ ∃ j : Nat, k = j ∧ j < t.length ∧ (t[j]?.getD 0 = 47 ∨ t[j]?.getD 0 = 46)) : fracRead t k = .bad 15 := by
  unfold fracRead
  rcases hk with rfl | ⟨j, rfl, hj, hc⟩
  · rw [if_pos (by omega), okDig_no hx h, if_neg (by decide)]
  · rw [if_neg (by omega), Int.toNat_natCast]
    have hno : (okDig (t.take j) && okDig (t.drop (j + 1))) = false := by
      rw [part_at hj] at hx
      rcases List.mem_append.1 hx with hx | hx
      · rw [okDig_no hx h, Bool.false_and]
      · rcases List.mem_cons.1 hx with hx | hx
        · rcases hc with hc | hc
          · rw [hc] at hx; subst hx; exact absurd h (by decide)
          · rw [hc] at hx; subst hx; exact absurd h (by decide)
        · rw [okDig_no hx h, Bool.and_false]
    rw [hno]
    split <;> rfl

/-- fraction.Parse of any text of at most 400 bytes. -/
theorem fParse_all (s : List UInt8) (w : World) (hS : Std w) (hl : s.length ≤ 400) :
    Calls Tryz.prog 41 #[.string ⟨s.toArray⟩] w fun e w' => e = .returned (frdOut (isNeg s) (fracOf s)) ∧ Below w.heap.size w w' := by
  by_cases ha : ∀ x ∈ s, x.toNat < 128
  · exact fParse_ascii s w hS (by omega) ha
  · obtain ⟨x, hx, h128⟩ : ∃ x ∈ s, 128 ≤ x.toNat := by
      rcases Classical.em (∃ x ∈ s, 128 ≤ x.toNat) with h | h
      · exact h
      · exact absurd (fun x hx => by rcases Nat.lt_or_ge x.toNat 128 with h1 | h1; exact h1; exact absurd ⟨x, hx, h1⟩ h) ha
    have htl := trimPre_len s [45]
    have hxt : x ∈ Lib.trimPrefix s [45] := by
      unfold Lib.trimPrefix
      split
      · rename_i hp
        unfold Lib.hasPrefix at hp
        cases s with
        | nil => cases hp
        | cons c t =>
          simp [List.isPrefixOf] at hp
          rcases List.mem_cons.1 hx with hx | hx
          · rw [hx, ← hp] at h128; exact absurd h128 (by decide)
          · exact hx
      · exact hx
    obtain ⟨k, hk1, hk2⟩ := idx_any (Lib.trimPrefix s [45]) (by omega)
    have h := fParse_gen s _ _ k w hS hl htl (cut_is s) hk1 hk2
    unfold isNeg fracOf fracIdx
    rw [if_neg (by omega), if_neg (by omega), fracRead_junk hxt h128 (indexAny_place _)]
    rw [fracRead_junk hxt h128 hk2] at h
    exact h

end Go.Proofs.YtagfnnongamneaaGreatDoor
