import Derived.Test.YtaaeekahhhookaaGreatDoorGXPMCk
import Derived.Test.YtaaeekahhhookaaGreatDoorFSgMCk
import Derived.Test.YtaaeekahhhookaaGreatDoorGBCk
namespace Go.Proofs.YtaaeekahhhookaaGreatDoor
open Go.RowKit Go.Lib
theorem lineStep_good {i k : Nat} {acc : List Tok} {kd : Int} {t n d : List UInt8} {x : List Int} {m : Nat} {go : List Tok → Nat → Lrd} : lineStep i k acc (.good kd t n d x m) go = if acc.length = 4000 then .bad (k + 1) 4 else go (acc ++ [⟨kd, t, n, d, x, i + 1, k + 1⟩]) (k + m) := rfl
def sumL (ws : List (List UInt8)) : Nat := (ws.map fun t => t.length + 1).sum
theorem sumL_cons (t : List UInt8) (r : List (List UInt8)) : sumL (t :: r) = t.length + 1 + sumL r := by simp [sumL]
theorem cutAll_sum (b : UInt8) : ∀ s, sumL (cutAll b s) = s.length + 1
 | [] => rfl
 | c :: t => by
   have ih := cutAll_sum b t
   by_cases hc : c = b
   ·subst hc
    rw [cutAll_hit, sumL_cons, ih]
    simp; omega
   ·cases hq : cutAll b t with
    | nil => exact absurd hq (cutAll_ne b t)
    | cons a r =>
      rw [cutAll_miss hc hq, sumL_cons]
      rw [hq, sumL_cons] at ih
      simp only [List.length_cons]
      omega
theorem join_own (base : Nat) (v : Value) (ws : List (List UInt8)) (b : List UInt8) (w : World) (h : w.ownsRow base 9 1 v ws.length (strs ws)) (hj : (Lib.join ws b).length ≤ 1000000) (hn : ws.length ≤ 1000000) :
  Calls Tryz.prog 58 #[v, .string ⟨b.toArray⟩] w fun e w' => e = .returned (.string ⟨(Lib.join ws b).toArray⟩) ∧ Below w.heap.size w w' := by
 obtain ⟨A7, c7, rfl, hc7, hm7, hr7⟩ := Row.of_own h
 rcases Nat.eq_zero_or_pos ws.length with h0 | h0
 ·have hn : ws = [] := List.eq_nil_of_length_eq_zero h0
  rw [h0]
  refine (Tryz.strings_Join_none A7 c7 ⟨b.toArray⟩ w).mono fun e w' ⟨h1, h2⟩ => ⟨?_, h2 ▸ Below.refl _ _⟩
  rw [h1, hn]; rfl
 ·have hcell : ∀ j s, ws[j]? = some s → ∃ ad, A7 = some ad ∧ ad.block < w.heap.size ∧ w.cell? (ad.add j) = some (.string ⟨s.toArray⟩) := by
   intro j s hs
   exact hr7.get j _ (by unfold strs; rw [List.getElem?_map, hs]; rfl)
  obtain ⟨ad, rfl, hadb, hc0⟩ := hcell 0 _ (List.getElem?_eq_getElem h0)
  have hz : ad.add 0 = ad := by unfold Addr.add; simp
  rw [hz] at hc0
  obtain ⟨bk, o, rfl⟩ := addr_plain hc0
  have hid : ((fun x : ByteArray => x.data.toList) ∘ fun s : List UInt8 => (⟨s.toArray⟩ : ByteArray)) = id := by funext s; rfl
  have hJ := Tryz.strings_Join bk o c7 (ws.map fun s => ⟨s.toArray⟩) ⟨b.toArray⟩ w (by
   intro j s hs
   rw [List.getElem?_map] at hs
   cases hw : ws[j]? with
   | none => rw [hw] at hs; cases hs
   | some t =>
     rw [hw] at hs
     simp at hs
     subst hs
     obtain ⟨ad', e, _, hc'⟩ := hcell j t hw
     have e2 := Option.some.inj e
     subst e2
     rw [Lib.add_plain] at hc'
     exact hc') hadb (by simp; omega) (by simp; omega) (by
   rw [List.map_map, hid, List.map_id]
   exact Nat.le_trans hj (by omega))
  rw [List.length_map, List.map_map, hid, List.map_id] at hJ
  exact hJ
theorem strs_snoc (ws : List (List UInt8)) (t : List UInt8) : strs (ws ++ [t]) = strs ws ++ [.string ⟨t.toArray⟩] := by unfold strs; rw [List.map_append]; rfl
end Go.Proofs.YtaaeekahhhookaaGreatDoor
