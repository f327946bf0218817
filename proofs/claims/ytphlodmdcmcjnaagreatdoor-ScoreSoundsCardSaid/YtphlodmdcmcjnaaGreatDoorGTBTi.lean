/- size.number, zero, Of: sizes of whole numbers. size.Of, short, check, CheckAll of sizes of whole numbers. Ones: decimal.Lcm, whole.Lcm, whole.DivMod of ones; owned rows beside each other; the plain words of terms. size.termsOf of a size of whole numbers. Rows in a block of their own. -/
import Derived.Test.YtphlodmdcmcjnaaGreatDoorGTATi
import Derived.Test.YtphlodmdcmcjnaaGreatDoorFSgMTi
import Derived.Test.YtphlodmdcmcjnaaGreatDoorSayMTi
import Derived.Test.YtphlodmdcmcjnaaGreatDoorGATi
import Derived.Deep.RegionHeld3
import Derived.OrdersIn
import Derived.TacticsIn
import Derived.RangeFuncCalls
import Derived.Deep.AppendLies
import Derived.Deep.DrawnRows
namespace Go.Proofs.YtphlodmdcmcjnaaGreatDoor
open Go.RowKit Go.Lib

/-- Pairs of cells, one behind the other. -/
def flat2 : List (Value × Value) → List Value
  | [] => []
  | p :: l => p.1 :: p.2 :: flat2 l
theorem flat2_get0 : ∀ (l : List (Value × Value)) (k : Nat), (flat2 l)[k * 2]? = l[k]?.map (·.1)
  | [], k => by simp [flat2]
  | p :: l, 0 => by simp [flat2]
  | p :: l, k + 1 => by
    rw [show (k + 1) * 2 = k * 2 + 1 + 1 by omega, flat2, List.getElem?_cons_succ, List.getElem?_cons_succ, flat2_get0 l k, List.getElem?_cons_succ]
theorem flat2_get1 : ∀ (l : List (Value × Value)) (k : Nat), (flat2 l)[k * 2 + 1]? = l[k]?.map (·.2)
  | [], k => by simp [flat2]
  | p :: l, 0 => by simp [flat2]
  | p :: l, k + 1 => by
    rw [show (k + 1) * 2 + 1 = k * 2 + 1 + 1 + 1 by omega, flat2, List.getElem?_cons_succ, List.getElem?_cons_succ, flat2_get1 l k, List.getElem?_cons_succ]
/-- A whole number as a fraction, and its cells. -/
def fpair (z : Int) : Value × Value := (.string ⟨(itoa z).toArray⟩, .string ⟨#[49]⟩)
def szs (l : List Int) : List Value := flat2 (l.map fpair)
theorem szs_get0 {l : List Int} {k : Nat} {z : Int} (h : l[k]? = some z) : (szs l)[k * 2]? = some (.string ⟨(itoa z).toArray⟩) := by
  unfold szs
  rw [flat2_get0, List.getElem?_map, h]; rfl
theorem szs_get1 {l : List Int} {k : Nat} {z : Int} (h : l[k]? = some z) : (szs l)[k * 2 + 1]? = some (.string ⟨#[49]⟩) := by
  unfold szs
  rw [flat2_get1, List.getElem?_map, h]; rfl
/-- A new size: a block of its own. -/
def SzAt (w : World) (B : Nat) (v : Value) (l : List Int) : Prop := ∃ g, v = .slice (some ⟨g, 0, Option.none⟩) l.length l.length ∧ B ≤ g ∧ Cells w g 55 (szs l)
/-- A size whose elements are whole numbers. -/
def IsSize (w : World) (B : Nat) (v : Value) (l : List Int) : Prop := ∃ A c, v = .slice A l.length c ∧ l.length ≤ c ∧ c ≤ maxLen ∧ Row w B 2 A l.length (szs l)
theorem IsSize.keep {w w' : World} {B : Nat} {v : Value} {l : List Int} (h : IsSize w B v l) (hb : Below B w w') : IsSize w' B v l := by
  obtain ⟨A, c, rfl, h1, h2, h3⟩ := h
  exact ⟨A, c, rfl, h1, h2, h3.below hb (Nat.le_refl _)⟩
theorem IsSize.up {w : World} {B B' : Nat} {v : Value} {l : List Int} (h : IsSize w B v l) (hB : B ≤ B') : IsSize w B' v l := by
  obtain ⟨A, c, rfl, h1, h2, h3⟩ := h
  exact ⟨A, c, rfl, h1, h2, h3.up hB⟩
theorem IsSize.lift {w w' : World} {v : Value} {l : List Int} (h : IsSize w w.heap.size v l) (hb : Below w.heap.size w w') : IsSize w' w'.heap.size v l := (h.keep hb).up hb.size
/-- One element of a size: its two cells. -/
theorem IsSize.at_ {w : World} {B : Nat} {A : Option Addr} {n c : Nat} {l : List Int} (h : IsSize w B (.slice A n c) l) {k : Nat} (hk : k < l.length) :
    ∃ b o, A = some ⟨b, o, Option.none⟩ ∧ b < B ∧ w.cell? ⟨b, o + k * 2, Option.none⟩ = some (.string ⟨(itoa l[k]).toArray⟩) ∧ w.cell? ⟨b, o + k * 2 + 1, Option.none⟩ = some (.string ⟨#[49]⟩) := by
  obtain ⟨A', c', e, h1, h2, h3⟩ := h
  cases e
  obtain ⟨ad, e1, hb, hc⟩ := h3.get (k * 2) _ (szs_get0 (List.getElem?_eq_getElem hk))
  obtain ⟨ad', e2, _, hc'⟩ := h3.get (k * 2 + 1) _ (szs_get1 (List.getElem?_eq_getElem hk))
  cases e1.symm.trans e2
  have hpl : ∃ b o, ad = ⟨b, o, Option.none⟩ := by
    obtain ⟨ad2, e3, _, hc2⟩ := h3.get 0 _ (szs_get0 (k := 0) (List.getElem?_eq_getElem (by omega)))
    cases e1.symm.trans e3
    have hz : ad.add 0 = ad := by unfold Addr.add; simp
    rw [hz] at hc2
    obtain ⟨b, o, r⟩ := ad
    unfold World.cell? at hc2
    cases r with
    | none => exact ⟨b, o, rfl⟩
    | some x =>
      exfalso
      dsimp only at hc2
      split at hc2
      · simp at hc2
      · cases hc2
  obtain ⟨b, o, rfl⟩ := hpl
  rw [Lib.add_plain] at hc hc'
  exact ⟨b, o, e1, hb, hc, by rw [Nat.add_assoc]; exact hc'⟩

end Go.Proofs.YtphlodmdcmcjnaaGreatDoor

namespace Go.Proofs.YtphlodmdcmcjnaaGreatDoor
open Go.RowKit Go.Lib

theorem itoa_one : itoa 1 = [49] := by decide +kernel
/-- The elements are small. -/
def SmallL (l : List Int) : Prop := ∀ z ∈ l, z.natAbs ≤ 1000000
theorem small_len {z : Int} (h : z.natAbs ≤ 1000000) : (itoa z).length ≤ 8 ∧ (decDigits z.natAbs).length ≤ 7 := by
  have h1 : (decDigits z.natAbs).length ≤ 7 := by
    rw [dec_length]
    exact nDigits_le (by omega) (by omega)
  have := itoa_len z
  omega

/-- A slice of sizes. -/
structure SizesAt (w : World) (B : Nat) (A : Option Addr) (l : List (List Int)) : Prop where
  get : ∀ k x, l[k]? = some x → ∃ ad v, A = some ad ∧ ad.block < B ∧ w.cell? (ad.add k) = some v ∧ IsSize w B v x
theorem SizesAt.lift {w w' : World} {A : Option Addr} {l : List (List Int)} (h : SizesAt w w.heap.size A l) (hb : Below w.heap.size w w') : SizesAt w' w'.heap.size A l :=
  ⟨fun k x hx => by
    obtain ⟨ad, v, e, hlt, hc, hs⟩ := h.get k x hx
    exact ⟨ad, v, e, Nat.lt_of_lt_of_le hlt hb.size, by rw [hb.cell (by rw [add_block]; exact hlt)]; exact hc, hs.lift hb⟩⟩
end Go.Proofs.YtphlodmdcmcjnaaGreatDoor

namespace Go.Proofs.YtphlodmdcmcjnaaGreatDoor
open Go.RowKit Go.Lib

/-- A row that the call owns stays as it is where a row of another element type grows. -/
theorem own_grown {w w' : World} {base1 n1 s1 base2 n2 s2 : Nat} {e1 e2 : TypeId} {v1 v2 : Value} {xs1 xs2 : List Value} (h1 : w.ownsRow base1 e1 s1 v1 n1 xs1) (h2 : w.ownsRow base2 e2 s2 v2 n2 xs2) (hne : e1 ≠ e2) (hg : w.grownBy w' v1.ownBlock) : w'.ownsRow base2 e2 s2 v2 n2 xs2 := by
  refine ⟨h2.1, ?_⟩
  rcases h2.2 with h0 | ⟨g, cap, cur, rfl, b, c, d⟩
  · exact .inl h0
  · refine .inr ⟨g, cap, cur, rfl, b, ?_, d⟩
    refine (hg.block g (Array.getElem?_eq_some_iff.1 c).1 ?_).trans c
    rcases h1.2 with ⟨rfl, _⟩ | ⟨g', cap', cur', rfl, _, c', _⟩
    · simp [Value.ownBlock]
    · intro e
      have : g = g' := by simpa [Value.ownBlock] using e
      subst this
      rw [c] at c'
      injection c' with c'
      injection c' with _ c' _
      exact hne c'.symm

/-- Texts of whole numbers. -/
def zstrs (l : List Int) : List Value := l.map fun z => .string ⟨(itoa z).toArray⟩
/-- A slice of texts of whole numbers. -/
def IsZs (w : World) (B : Nat) (v : Value) (l : List Int) : Prop := ∃ A c, v = .slice A l.length c ∧ l.length ≤ c ∧ c ≤ maxLen ∧ Row w B 1 A l.length (zstrs l)
theorem IsZs.lift {w w' : World} {v : Value} {l : List Int} (h : IsZs w w.heap.size v l) (hb : Below w.heap.size w w') : IsZs w' w'.heap.size v l := by
  obtain ⟨A, c, rfl, h1, h2, h3⟩ := h
  exact ⟨A, c, rfl, h1, h2, (h3.below hb (Nat.le_refl _)).up hb.size⟩
theorem IsZs.of_own {w : World} {base : Nat} {e : TypeId} {v : Value} {l : List Int} (h : w.ownsRow base e 1 v l.length (zstrs l)) : IsZs w w.heap.size v l := by
  obtain ⟨A, c, rfl, h1, h2, h3⟩ := Row.of_own h
  exact ⟨A, c, rfl, h1, h2, h3⟩
end Go.Proofs.YtphlodmdcmcjnaaGreatDoor

namespace Go.Proofs.YtphlodmdcmcjnaaGreatDoor
open Go.RowKit Go.Lib
attribute [local go_sem ↓] Go.wp_at_zero Go.wp_at_succ

theorem own_ne_cells {w : World} {base n s g : Nat} {e e' : TypeId} {v : Value} {xs ys : List Value} (h : w.ownsRow base e s v n xs) (hc : Cells w g e' ys) (hne : e ≠ e') : some g ≠ v.ownBlock := by
  rcases h.2 with ⟨rfl, _⟩ | ⟨g', cap', cur', rfl, _, c', _⟩
  · simp [Value.ownBlock]
  · intro e1
    have : g = g' := by simpa [Value.ownBlock] using e1
    subst this
    unfold Cells at hc
    rw [hc] at c'
    injection c' with c'
    injection c' with _ c' _
    exact hne c'.symm
end Go.Proofs.YtphlodmdcmcjnaaGreatDoor

namespace Go.Proofs.YtphlodmdcmcjnaaGreatDoor
open Go.RowKit Go.Lib

/-- A row that lies in a block of ints that somebody made. -/
def ORow (w : World) (v : Value) (x : List Int) : Prop := w.ownsRow 0 3 1 v x.length (is x)
theorem ORow.of_own {w : World} {base : Nat} {v : Value} {x : List Int} (h : w.ownsRow base 3 1 v x.length (is x)) : ORow w v x := own_base h (Nat.zero_le _)
theorem ORow.row {w : World} {v : Value} {x : List Int} (h : ORow w v x) : IsRow w w.heap.size v x := IsRow.of_own h
theorem ORow.below {w w' : World} {v : Value} {x : List Int} (h : ORow w v x) (hb : Below w.heap.size w w') : ORow w' v x := own_below h hb
theorem ORow.alloc {w : World} {v : Value} {x : List Int} (h : ORow w v x) (o : Obj) : ORow (w.alloc o) v x := World.ownsRow.alloc h o
theorem ORow.drew {w : World} {v : Value} {x : List Int} (h : ORow w v x) : ORow w.drew v x := h
theorem ORow.grown {w w' : World} {v v2 : Value} {x : List Int} {base s n : Nat} {e : TypeId} {xs : List Value} (h : ORow w v x) (ho : w.ownsRow base e s v2 n xs) (hne : e ≠ 3) (hg : w.grownBy w' v2.ownBlock) : ORow w' v x := own_grown ho h hne hg
theorem ORow.set {w : World} {v : Value} {x : List Int} {g k : Nat} {e : TypeId} {ys : List Value} (h : ORow w v x) (hc : Cells w g e ys) (hne : 3 ≠ e) (u : Value) : ORow (w.setCell ⟨g, k, Option.none⟩ u) v x := ownsRow_setCell_other (a := ⟨g, k, Option.none⟩) h (fun e2 => own_ne_cells h hc hne e2.symm) u
theorem ORow.shape {w : World} {v : Value} {x : List Int} (h : ORow w v x) : ∃ A c, v = .slice A x.length c := h.row.shape
theorem ORow.of_cells {w : World} {g n : Nat} {x : List Int} (h : Cells w g 3 (is x)) (hn : x.length = n) (hm : n ≤ 1000) : ORow w (.slice (some ⟨g, 0, Option.none⟩) n n) x := by
  unfold ORow
  rw [hn]
  have h2 := Cells.own (base := 0) (n := n) (k := n) h (Nat.zero_le _) (by rw [is_length, hn]) (by unfold maxLen; omega) (Nat.le_refl _)
  rw [List.take_of_length_le (by rw [is_length, hn]; exact Nat.le_refl _)] at h2
  exact h2
end Go.Proofs.YtphlodmdcmcjnaaGreatDoor
