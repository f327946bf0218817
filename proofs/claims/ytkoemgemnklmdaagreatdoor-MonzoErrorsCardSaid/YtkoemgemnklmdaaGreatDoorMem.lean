/- Words for memory: a slice value whose cells are known, rows of pieces and of ints. -/
import Derived.WalkKit
import Derived.WalkSpells
import Derived.WalkLawsBesides
import Derived.Below
import Derived.Laws.OwnMore
import Derived.Deep.AppendLies
import Derived.Deep.Draws
import Derived.Laws.Rows
import Derived.Maps.AppendAt
import Derived.RegionTactic
import Derived.OwnWalk
import Derived.Lib.Hide
namespace Go.Proofs.YtkoemgemnklmdaaGreatDoor
open Go.RowKit

/-- A fact that no tactic looks into. -/
structure Box (p : Prop) : Prop where
  out : p

theorem add_block (a : Addr) (n : Nat) : (a.add n).block = a.block := by unfold Addr.add; split <;> rfl
theorem add_add' (a : Addr) (i j : Nat) : (a.add i).add j = a.add (i + j) := by
  unfold Addr.add
  by_cases hi : i = 0 <;> by_cases hj : j = 0 <;> simp [hi, hj, Nat.add_assoc]

/-- The slice with address A and n elements of 'size' cells has the cells xs, all in a block below B. -/
structure Row (w : World) (B size : Nat) (A : Option Addr) (n : Nat) (xs : List Value) : Prop where
  len : xs.length = n * size
  get : ∀ k u, xs[k]? = some u → ∃ ad, A = some ad ∧ ad.block < B ∧ w.cell? (ad.add k) = some u

section
variable {w w' : World} {B B' size n : Nat} {A : Option Addr} {xs : List Value}

theorem Row.nil (w : World) (B size : Nat) (A : Option Addr) : Row w B size A 0 [] := ⟨by simp, fun k u h => by simp at h⟩
theorem Row.keep (h : Row w B size A n xs) (hk : ∀ p : Addr, p.block < B → w'.cell? p = w.cell? p) : Row w' B size A n xs :=
  ⟨h.len, fun k u hu => by
    obtain ⟨ad, e, hb, hc⟩ := h.get k u hu
    exact ⟨ad, e, hb, (hk _ (by rw [add_block]; exact hb)).trans hc⟩⟩
theorem Row.up (h : Row w B size A n xs) (hB : B ≤ B') : Row w B' size A n xs :=
  ⟨h.len, fun k u hu => by
    obtain ⟨ad, e, hb, hc⟩ := h.get k u hu
    exact ⟨ad, e, Nat.lt_of_lt_of_le hb hB, hc⟩⟩
theorem Row.below {C : Nat} (h : Row w B size A n xs) (hb : Below C w w') (hC : B ≤ C) : Row w' B size A n xs := h.keep fun _ hp => hb.cell (Nat.lt_of_lt_of_le hp hC)
theorem Row.drew (h : Row w B size A n xs) : Row w.drew B size A n xs := h.keep fun _ _ => rfl
theorem Row.drewN (h : Row w B size A n xs) (k : Nat) : Row (w.drewN k) B size A n xs := h.keep fun _ _ => rfl
theorem Row.alloc (h : Row w B size A n xs) (hB : B ≤ w.heap.size) (o : Obj) : Row (w.alloc o) B size A n xs := h.keep fun p hp => World.cell?_alloc_lt w o p (by omega)
theorem Row.setCell (h : Row w B size A n xs) {p : Addr} (hB : B ≤ p.block) (u : Value) : Row (w.setCell p u) B size A n xs :=
  h.keep fun q hq => World.cell?_setCell_other w p q u (fun e => by subst e; omega)
theorem Row.grown (h : Row w B size A n xs) {row : Option Nat} (hg : w.grownBy w' row) (hB : B ≤ w.heap.size) (hr : ∀ g, row = some g → B ≤ g) : Row w' B size A n xs :=
  h.keep fun p hp => World.cell?_of_block (hg.block p.block (by omega) (fun e => by have := hr _ e.symm; omega))
theorem Row.take (h : Row w B 1 A n xs) {k : Nat} (hk : k ≤ n) : Row w B 1 A k (xs.take k) :=
  ⟨by rw [List.length_take, h.len]; omega, fun j u hu => h.get j u (by
    rw [List.getElem?_take] at hu
    split at hu
    · exact hu
    · cases hu)⟩
/-- Out of a row that the call owns. -/
theorem Row.of_own {base : Nat} {e : TypeId} {v : Value} (h : w.ownsRow base e size v n xs) : ∃ A c, v = .slice A n c ∧ n ≤ c ∧ c ≤ maxLen ∧ Row w w.heap.size size A n xs := by
  rcases h.2 with ⟨rfl, rfl⟩ | ⟨g, cap, cur, rfl, _, hg, hn, hc, hs, ht⟩
  · exact ⟨Option.none, 0, rfl, Nat.le_refl _, Nat.zero_le _, h.1, fun k u hu => by
      have := h.1
      simp at this
      subst this
      simp at hu⟩
  · refine ⟨some ⟨g, 0, Option.none⟩, cap, rfl, hn, hc, h.1, fun k u hu => ⟨_, rfl, (Array.getElem?_eq_some_iff.1 hg).1, ?_⟩⟩
    have hk : k < xs.length := (List.getElem?_eq_some_iff.1 hu).1
    have e : (⟨g, 0, Option.none⟩ : Addr).add k = ⟨g, k, Option.none⟩ := by unfold Addr.add; split <;> simp_all
    rw [e, cell_of_row w g k cur _ (0, 0) hg, ← hu, ← ht, List.getElem?_take, if_pos (by rw [h.1] at hk; exact hk)]
    simp
end

/-- Block g is just the cells xs of element type e, none frozen. -/
def Cells (w : World) (g : Nat) (e : TypeId) (xs : List Value) : Prop := w.heap[g]? = some (.cells xs.toArray e (0, 0))

section
variable {w w' : World} {g : Nat} {e : TypeId} {xs : List Value}
theorem Cells.lt (h : Cells w g e xs) : g < w.heap.size := (Array.getElem?_eq_some_iff.1 h).1
theorem Cells.cell (h : Cells w g e xs) (k : Nat) : w.cell? ⟨g, k, Option.none⟩ = xs[k]? := by
  rw [cell_of_row w g k xs.toArray e (0, 0) h]; simp
theorem Cells.free (h : Cells w g e xs) (k : Nat) : w.frozen? ⟨g, k, Option.none⟩ = false := by
  unfold Cells at h
  simp [World.frozen?, h]
theorem Cells.new (w : World) (e : TypeId) (cs : Array Value) : Cells (w.alloc (.cells cs e)) w.heap.size e cs.toList := by
  unfold Cells
  rw [heap_alloc_new]
theorem Cells.set (h : Cells w g e xs) (k : Nat) (u : Value) : Cells (w.setCell ⟨g, k, Option.none⟩ u) g e (xs.set k u) := by
  unfold Cells at h ⊢
  simp [World.setCell, Array.getElem?_modify, h]
theorem Cells.far (h : Cells w g e xs) {p : Addr} (hp : g ≠ p.block) (u : Value) : Cells (w.setCell p u) g e xs := (Below.heap_setCell w p u g hp).trans h
theorem Cells.alloc (h : Cells w g e xs) (o : Obj) : Cells (w.alloc o) g e xs := (Below.heap_alloc w o g h.lt).trans h
theorem Cells.drew (h : Cells w g e xs) : Cells w.drew g e xs := h
theorem Cells.drewN (h : Cells w g e xs) (n : Nat) : Cells (w.drewN n) g e xs := h
theorem Cells.below {B : Nat} (h : Cells w g e xs) (hb : Below B w w') (hg : g < B) : Cells w' g e xs := (hb.block g hg).trans h
theorem Cells.of_full {base n : Nat} (h : w.ownsRow base e 1 (.slice (some ⟨g, 0, Option.none⟩) n n) n xs) : Cells w g e xs := by
  rcases h.2 with ⟨h0, _⟩ | ⟨g', cap, cur, hv, _, hg, _, _, hs, ht⟩
  · cases h0
  · cases hv
    unfold Cells
    rw [hg, ← ht, List.take_of_length_le (by rw [Array.length_toList, hs]; exact Nat.le_refl _)]
theorem Cells.own {base n k : Nat} (h : Cells w g e xs) (hb : base ≤ g) (hn : xs.length = n) (hm : n ≤ maxLen) (hk : k ≤ n) :
    w.ownsRow base e 1 (.slice (some ⟨g, 0, Option.none⟩) k n) k (xs.take k) :=
  ⟨by rw [List.length_take, hn]; omega, .inr ⟨g, n, xs.toArray, rfl, hb, h, hk, hm, by simp [hn], by simp⟩⟩
theorem Cells.row {B n : Nat} (h : Cells w g e xs) (hB : g < B) (hn : xs.length = n) : Row w B 1 (some ⟨g, 0, Option.none⟩) n xs :=
  ⟨by omega, fun k u hu => ⟨_, rfl, hB, by
    rw [show (⟨g, 0, Option.none⟩ : Addr).add k = ⟨g, k, Option.none⟩ by unfold Addr.add; split <;> simp_all, h.cell k, hu]⟩⟩
end

/-- A row that is owned stays owned in a later world. -/
theorem own_below {w w' : World} {base : Nat} {e : TypeId} {size : Nat} {v : Value} {n : Nat} {xs : List Value} (h : w.ownsRow base e size v n xs) (hb : Below w.heap.size w w') : w'.ownsRow base e size v n xs := by
  refine ⟨h.1, ?_⟩
  rcases h.2 with h0 | ⟨g, cap, cur, a, b, c, d⟩
  · exact .inl h0
  · exact .inr ⟨g, cap, cur, a, b, (hb.block g (Array.getElem?_eq_some_iff.1 c).1).trans c, d⟩
theorem own_base {w : World} {base base' : Nat} {e : TypeId} {size : Nat} {v : Value} {n : Nat} {xs : List Value} (h : w.ownsRow base e size v n xs) (hb : base' ≤ base) : w.ownsRow base' e size v n xs := by
  refine ⟨h.1, ?_⟩
  rcases h.2 with h0 | ⟨g, cap, cur, a, b, c⟩
  · exact .inl h0
  · exact .inr ⟨g, cap, cur, a, by omega, c⟩
theorem own_ne {w : World} {base : Nat} {e : TypeId} {size : Nat} {v : Value} {n : Nat} {xs : List Value} (h : w.ownsRow base e size v n xs) (hn : 0 < n) : v ≠ .slice Option.none 0 0 := by
  rcases h.2 with ⟨_, h0⟩ | ⟨g, cap, cur, rfl, _⟩
  · omega
  · simp
/-- An owned row, shortened. -/
theorem own_take {w : World} {base : Nat} {e : TypeId} {A : Option Addr} {n c : Nat} {xs : List Value} (h : w.ownsRow base e 1 (.slice A n c) n xs) {k : Nat} (hk : k ≤ n) : w.ownsRow base e 1 (.slice A k c) k (xs.take k) := by
  refine ⟨by rw [List.length_take, h.1]; omega, ?_⟩
  rcases h.2 with ⟨hv, hn⟩ | ⟨g, cap, cur, hv, b, hc, hn, hm, hs, ht⟩
  · cases hv
    exact .inl ⟨by rw [show k = 0 by omega], by omega⟩
  · cases hv
    refine .inr ⟨g, c, cur, rfl, b, hc, by omega, hm, hs, ?_⟩
    rw [← ht, List.take_take]
    congr 1
    omega

/-- The length of a slice value. -/
def lenV : Value → Nat | .slice _ n _ => n | _ => 0

/-- Cells of pieces, and of ints. -/
def us (l : List Nat) : List Value := l.map fun n => Value.int .u64 (Int.ofNat n)
def is (l : List Int) : List Value := l.map fun n => Value.int .i64 n
theorem us_length (l : List Nat) : (us l).length = l.length := by simp [us]
theorem is_length (l : List Int) : (is l).length = l.length := by simp [is]
theorem us_one (l : List Nat) : ∀ u ∈ us l, u.oneCell' = true := by intro u hu; obtain ⟨n, _, rfl⟩ := List.mem_map.1 hu; rfl
theorem is_one (l : List Int) : ∀ u ∈ is l, u.oneCell' = true := by intro u hu; obtain ⟨n, _, rfl⟩ := List.mem_map.1 hu; rfl
theorem us_append (a b : List Nat) : us (a ++ b) = us a ++ us b := by simp [us]
theorem is_append (a b : List Int) : is (a ++ b) = is a ++ is b := by simp [is]
theorem us_take (l : List Nat) (k : Nat) : us (l.take k) = (us l).take k := by simp [us]

/-- One piece of a slice that reads as pieces. -/
theorem Row.u_at {w : World} {B n k : Nat} {A : Option Addr} {l : List Nat} (h : Row w B 1 A n (us l)) (hk : k < n) :
    ∃ ad, A = some ad ∧ ad.block < B ∧ w.cell? (ad.add k) = some (.int .u64 ((l[k]?.getD 0 : Nat) : Int)) := by
  have hl : k < l.length := by have := h.len; rw [us_length] at this; omega
  obtain ⟨ad, e, hb, hc⟩ := h.get k (.int .u64 ((l[k] : Nat) : Int)) (by unfold us; rw [List.getElem?_map, List.getElem?_eq_getElem hl]; rfl)
  exact ⟨ad, e, hb, by rw [hc, List.getElem?_eq_getElem hl]; rfl⟩

theorem Row.i_at {w : World} {B n k : Nat} {A : Option Addr} {l : List Int} (h : Row w B 1 A n (is l)) (hk : k < n) :
    ∃ ad, A = some ad ∧ ad.block < B ∧ w.cell? (ad.add k) = some (.int .i64 (l[k]?.getD 0)) := by
  have hl : k < l.length := by have := h.len; rw [is_length] at this; omega
  obtain ⟨ad, e, hb, hc⟩ := h.get k (.int .i64 l[k]) (by unfold is; rw [List.getElem?_map, List.getElem?_eq_getElem hl]; rfl)
  exact ⟨ad, e, hb, by rw [hc, List.getElem?_eq_getElem hl]; rfl⟩

end Go.Proofs.YtkoemgemnklmdaaGreatDoor
