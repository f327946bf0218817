/- The plain law of turned and moved chords. The plain law of alike chords. schismalaw39.rooted: rows in blocks of their own, each behind the other; a store into one of them. -/
import Derived.Test.YtaiglcbgllnciaaGreatDoorGCLNu
import Derived.Test.YtaiglcbgllnciaaGreatDoorGCFNu
import Derived.Test.YtaiglcbgllnciaaGreatDoorGCENu
import Derived.Test.YtaiglcbgllnciaaGreatDoorGCGNu
import Derived.Test.YtaiglcbgllnciaaGreatDoorGCDNu
import Derived.Test.YtaiglcbgllnciaaGreatDoorGCANu
namespace Go.Proofs.YtaiglcbgllnciaaGreatDoor
open Go.RowKit Go.Lib

/-! The dual. -/
/-! The numbers of the dual. -/
theorem ext_no {c : List (List Int)} {k : Nat} {s : Int} : ∀ j, j ≤ c.length → extTo false c k s j ≤ s ∧ (∀ i, i < j → extTo false c k s j ≤ (c[i]?.getD [])[k]?.getD 0) ∧ (extTo false c k s j = s ∨ ∃ i, i < j ∧ extTo false c k s j = (c[i]?.getD [])[k]?.getD 0)
  | 0, _ => ⟨Int.le_refl _, fun i h => absurd h (by omega), .inl rfl⟩
  | j + 1, hj => by
    obtain ⟨h1, h2, h3⟩ := ext_no (c := c) (k := k) (s := s) j (by omega)
    have e : extTo false c k s (j + 1) = min (extTo false c k s j) ((c[j]?.getD [])[k]?.getD 0) := rfl
    rw [e]
    generalize hz : (c[j]?.getD [])[k]?.getD 0 = z
    refine ⟨by omega, fun i hi => ?_, ?_⟩
    · by_cases hij : i = j
      · subst hij; rw [hz]; omega
      · have := h2 i (by omega); omega
    · by_cases hle : extTo false c k s j ≤ z
      · rw [Int.min_eq_left hle]
        rcases h3 with h3 | ⟨i, hi, h3⟩
        · exact .inl h3
        · exact .inr ⟨i, by omega, h3⟩
      · rw [Int.min_eq_right (by omega)]
        exact .inr ⟨j, by omega, hz.symm⟩
theorem ext_yes {c : List (List Int)} {k : Nat} {s : Int} : ∀ j, j ≤ c.length → s ≤ extTo true c k s j ∧ (∀ i, i < j → (c[i]?.getD [])[k]?.getD 0 ≤ extTo true c k s j) ∧ (extTo true c k s j = s ∨ ∃ i, i < j ∧ extTo true c k s j = (c[i]?.getD [])[k]?.getD 0)
  | 0, _ => ⟨Int.le_refl _, fun i h => absurd h (by omega), .inl rfl⟩
  | j + 1, hj => by
    obtain ⟨h1, h2, h3⟩ := ext_yes (c := c) (k := k) (s := s) j (by omega)
    have e : extTo true c k s (j + 1) = max (extTo true c k s j) ((c[j]?.getD [])[k]?.getD 0) := rfl
    rw [e]
    generalize hz : (c[j]?.getD [])[k]?.getD 0 = z
    refine ⟨by omega, fun i hi => ?_, ?_⟩
    · by_cases hij : i = j
      · subst hij; rw [hz]; omega
      · have := h2 i (by omega); omega
    · by_cases hle : z ≤ extTo true c k s j
      · rw [Int.max_eq_left hle]
        rcases h3 with h3 | ⟨i, hi, h3⟩
        · exact .inl h3
        · exact .inr ⟨i, by omega, h3⟩
      · rw [Int.max_eq_right (by omega)]
        exact .inr ⟨j, by omega, hz.symm⟩
/-- The least exponent, and the greatest. -/
theorem extX_no {c : List (List Int)} {x : List Int} (hx : x ∈ c) (k : Nat) : (∀ y ∈ c, extX false c x k ≤ y[k]?.getD 0) ∧ ∃ y ∈ c, extX false c x k = y[k]?.getD 0 := by
  obtain ⟨h1, h2, h3⟩ := ext_no (c := c) (k := k) (s := x[k]?.getD 0) c.length (Nat.le_refl _)
  refine ⟨fun y hy => ?_, ?_⟩
  · obtain ⟨i, hi, rfl⟩ := List.getElem_of_mem hy
    have := h2 i hi
    rw [List.getElem?_eq_getElem hi] at this
    exact this
  · rcases h3 with h3 | ⟨i, hi, h3⟩
    · exact ⟨x, hx, h3⟩
    · refine ⟨c[i], List.getElem_mem hi, ?_⟩
      rw [List.getElem?_eq_getElem hi] at h3
      exact h3
theorem extX_yes {c : List (List Int)} {x : List Int} (hx : x ∈ c) (k : Nat) : (∀ y ∈ c, y[k]?.getD 0 ≤ extX true c x k) ∧ ∃ y ∈ c, extX true c x k = y[k]?.getD 0 := by
  obtain ⟨h1, h2, h3⟩ := ext_yes (c := c) (k := k) (s := x[k]?.getD 0) c.length (Nat.le_refl _)
  refine ⟨fun y hy => ?_, ?_⟩
  · obtain ⟨i, hi, rfl⟩ := List.getElem_of_mem hy
    have := h2 i hi
    rw [List.getElem?_eq_getElem hi] at this
    exact this
  · rcases h3 with h3 | ⟨i, hi, h3⟩
    · exact ⟨x, hx, h3⟩
    · refine ⟨c[i], List.getElem_mem hi, ?_⟩
      rw [List.getElem?_eq_getElem hi] at h3
      exact h3
theorem numOk_of {p : List Int} {inv : Bool} {c : List (List Int)} (h4 : p.length ≤ 4) (hp : ∀ k, k < p.length → 0 ≤ p[k]?.getD 0 ∧ p[k]?.getD 0 ≤ 1000) (hl : ∀ x ∈ c, x.length = p.length) (h : ∀ x ∈ c, ∀ k : Nat, (x[k]?.getD 0).natAbs ≤ 12) : NumOk p inv c :=
  ⟨hl, h4, hp, fun x hx k _ => by
    have h1 := h x hx k
    cases inv with
    | false =>
      obtain ⟨_, y, hy, e⟩ := extX_no hx k
      have h2 := h y hy k
      omega
    | true =>
      obtain ⟨_, y, hy, e⟩ := extX_yes hx k
      have h2 := h y hy k
      omega, fun x hx k _ => by have := h x hx k; omega⟩
/-! Transposing. -/
/-! Described chords. -/
theorem chPrimes_rng (n : Nat) : ∀ k, k < (chPrimes n).length → 0 ≤ (chPrimes n)[k]?.getD 0 ∧ (chPrimes n)[k]?.getD 0 ≤ 1000 := by
  have hk : n % 3 = 0 ∨ n % 3 = 1 ∨ n % 3 = 2 := by omega
  unfold chPrimes
  rcases hk with hk | hk | hk <;> rw [hk] <;> decide
theorem num_base {n : Nat} {inv : Bool} {c : List (List Int)} (hb : BaseC (chPrimes n) c) : NumOk (chPrimes n) inv c := by
  obtain ⟨a, T, hT⟩ := tabOk n
  have := chPrimes_len n
  exact numOk_of (by omega) (chPrimes_rng n) hb.len fun x hx k => by have := hb.sm x hx k; omega
end Go.Proofs.YtaiglcbgllnciaaGreatDoor

namespace Go.Proofs.YtaiglcbgllnciaaGreatDoor
open Go.RowKit Go.Lib

/-! Comparing is total. -/
structure TotC {α : Type} (c : α → α → Int) : Prop where
  refl : ∀ a, c a a = 0
  eq : ∀ a b, c a b = 0 → a = b
  neg : ∀ a b, c b a = -c a b
  tr : ∀ a b d, c a b < 0 → c b d < 0 → c a d < 0
/-! Chords that are alike. -/
/-- The notes of l are those of c less z, but for equaves. -/
def EqvC (c : List (List Int)) (z : List Int) (l : List (List Int)) : Prop :=
  (∀ k ∈ l, ∃ x ∈ c, ∃ n, k = addE (difI x z) n) ∧ ∀ x ∈ c, ∃ k ∈ l, ∃ n, k = addE (difI x z) n
theorem EqvC.len {c l : List (List Int)} {z : List Int} {n : Nat} (h : EqvC c z l) (hc : ∀ x ∈ c, x.length = n) : ∀ k ∈ l, k.length = n := fun k hk => by
  obtain ⟨x, hx, n, rfl⟩ := h.1 k hk
  rw [addE_len, difI_len]
  exact hc x hx
section
variable {p : List Int} {c l : List (List Int)} {z : List Int} {a : Nat} {T : List Nat}
end

/-! Described chords. -/
end Go.Proofs.YtaiglcbgllnciaaGreatDoor

namespace Go.Proofs.YtaiglcbgllnciaaGreatDoor
open Go.RowKit Go.Lib

/-- A list of rows that the call owns, each in a block of its own. -/
def LRowD (w : World) (base : Nat) (v : Value) (l : List (List Int)) : Prop :=
  ∃ vs : List Value, w.ownsRow base 41 1 v l.length vs ∧ (∀ (j : Nat) (x : List Int), l[j]? = some x → ∃ u, vs[j]? = some u ∧ w.ownsRow base 3 1 u x.length (is x)) ∧ ∀ (i j : Nat) (u u' : Value) (g g' : Nat), i < j → vs[i]? = some u → vs[j]? = some u' → u.ownBlock = some g → u'.ownBlock = some g' → g < g'
theorem LRowD.nil (w : World) (base : Nat) : LRowD w base (.slice Option.none 0 0) [] := ⟨[], World.ownsRow_nil _ _ _ _, fun j x h => by simp at h, fun i j u u' g g' _ h => by simp at h⟩
theorem LRowD.lrow {w : World} {base : Nat} {v : Value} {l : List (List Int)} (h : LRowD w base v l) : LRow w base v l := by
  obtain ⟨vs, h1, h2, _⟩ := h
  exact ⟨vs, h1, fun j x hj => by obtain ⟨u, h3, h4⟩ := h2 j x hj; exact ⟨u, h3, ORow.of_own h4⟩⟩
theorem LRowD.below {w w' : World} {base : Nat} {v : Value} {l : List (List Int)} (h : LRowD w base v l) (hb : Below w.heap.size w w') : LRowD w' base v l := by
  obtain ⟨vs, h1, h2, h3⟩ := h
  exact ⟨vs, own_below h1 hb, fun j x hj => by obtain ⟨u, h4, h5⟩ := h2 j x hj; exact ⟨u, h4, own_below h5 hb⟩, h3⟩
theorem LRowD.lts {w : World} {base : Nat} {v : Value} {l : List (List Int)} {vs : List Value} (h1 : w.ownsRow base 41 1 v l.length vs) (h2 : ∀ (j : Nat) (x : List Int), l[j]? = some x → ∃ u, vs[j]? = some u ∧ w.ownsRow base 3 1 u x.length (is x)) : ∀ (i : Nat) (u : Value) (g : Nat), vs[i]? = some u → u.ownBlock = some g → g < w.heap.size := fun i u g hu hg => by
  have hvl : vs.length = l.length := by have := h1.1; omega
  have hi := (List.getElem?_eq_some_iff.1 hu).1
  obtain ⟨u2, h3, h4⟩ := h2 i l[i] (List.getElem?_eq_getElem (by omega))
  rw [hu] at h3
  cases h3
  exact (h4.lt g hg).2
theorem LRowD.snoc {w w' : World} {base S : Nat} {v v' u : Value} {l : List (List Int)} {x : List Int} {vs : List Value} (h1 : w.ownsRow base 41 1 v l.length vs) (h2 : ∀ (j : Nat) (x : List Int), l[j]? = some x → ∃ u, vs[j]? = some u ∧ w.ownsRow base 3 1 u x.length (is x)) (h3 : ∀ (i j : Nat) (u u' : Value) (g g' : Nat), i < j → vs[i]? = some u → vs[j]? = some u' → u.ownBlock = some g → u'.ownBlock = some g' → g < g') (h4 : ∀ (i : Nat) (u : Value) (g : Nat), vs[i]? = some u → u.ownBlock = some g → g < S) (hx : w.ownsRow S 3 1 u x.length (is x)) (hS : base ≤ S)
    (hown : w'.ownsRow base 41 1 v' (l.length + 1) (vs ++ [u])) (hg : w.grownBy w' v.ownBlock) : LRowD w' base v' (l ++ [x]) := by
  have hvl : vs.length = l.length := by have := h1.1; omega
  refine ⟨vs ++ [u], by rw [List.length_append]; exact hown, fun j y hj => ?_, fun i j a b g g' hij ha hb hga hgb => ?_⟩
  · by_cases hjl : j < l.length
    · rw [List.getElem?_append_left hjl] at hj
      obtain ⟨u2, h5, h6⟩ := h2 j y hj
      exact ⟨u2, by rw [List.getElem?_append_left (by omega)]; exact h5, own_grown h1 h6 (by decide) hg⟩
    · rw [List.getElem?_append_right (by omega)] at hj
      have hj0 : j - l.length = 0 := by
        obtain ⟨hlt, _⟩ := List.getElem?_eq_some_iff.1 hj
        simpa using hlt
      rw [hj0] at hj
      cases hj
      exact ⟨u, by rw [List.getElem?_append_right (by omega), hvl, hj0]; rfl, own_grown h1 (own_base hx hS) (by decide) hg⟩
  · have hjl := (List.getElem?_eq_some_iff.1 hb).1
    rw [List.length_append, List.length_singleton] at hjl
    rw [List.getElem?_append_left (by omega)] at ha
    by_cases hj : j < vs.length
    · rw [List.getElem?_append_left hj] at hb
      exact h3 i j a b g g' hij ha hb hga hgb
    · rw [List.getElem?_append_right (by omega), show j - vs.length = 0 by omega] at hb
      cases hb
      exact Nat.lt_of_lt_of_le (h4 i a g ha hga) (hx.lt g' hgb).1
/-- A store into one of the rows. -/
theorem LRowD.store {w : World} {base n c : Nat} {A : Option Addr} {l : List (List Int)} (h : LRowD w base (.slice A n c) l) {i : Nat} {x : List Int} (hi : l[i]? = some x) (hx : 0 < x.length) :
    ∃ gA g cap, A = some ⟨gA, 0, Option.none⟩ ∧ gA < w.heap.size ∧ w.cell? ⟨gA, i, Option.none⟩ = some (.slice (some ⟨g, 0, Option.none⟩) x.length cap) ∧ w.cell? ⟨g, 0, Option.none⟩ = some (.int .i64 (x[0]?.getD 0)) ∧ w.frozen? ⟨g, 0, Option.none⟩ = false ∧ base ≤ g ∧ g < w.heap.size ∧ gA ≠ g ∧ ∀ z, RowsAt (w.setCell ⟨g, 0, Option.none⟩ (.int .i64 z)) (w.setCell ⟨g, 0, Option.none⟩ (.int .i64 z)).heap.size A (l.set i (x.set 0 z)) := by
  obtain ⟨vs, h1, h2, h3⟩ := h
  have hil := (List.getElem?_eq_some_iff.1 hi).1
  have hvl : vs.length = l.length := by have := h1.1; omega
  obtain ⟨u, hu, ho⟩ := h2 i x hi
  have ho2 := ho
  have h12 := h1
  rcases ho.2 with ⟨_, h0⟩ | ⟨g, cap, cur, rfl, hbg, hcur, _⟩
  · omega
  rcases h1.2 with ⟨_, h0⟩ | ⟨gA, capA, curA, e, _, hcurA, _⟩
  · omega
  cases e
  have hne : gA ≠ g := fun e => by
    subst e
    rw [hcur] at hcurA
    have := Option.some.inj hcurA
    injection this with _ ht _
    exact absurd ht (by decide)
  have hltA := (h1.lt gA rfl).2
  have hltg := (ho.lt g rfl).2
  have hc0 : w.cell? ⟨g, 0, Option.none⟩ = some (.int .i64 (x[0]?.getD 0)) := by
    refine (ho.cellAt 0 (by omega)).trans ?_
    unfold is
    rw [List.getElem?_map, List.getElem?_eq_getElem hx]
    rfl
  refine ⟨gA, g, cap, rfl, hltA, (h1.cellAt i (by omega)).trans hu, hc0, ho.frozenAt 0, hbg, hltg, hne, fun z => ⟨fun k y hy => ?_⟩⟩
  have h1' := ownsRow_setCell_other (a := ⟨g, 0, Option.none⟩) h1 (fun e => hne (by simpa [Value.ownBlock] using e)) (.int .i64 z)
  have hk := (List.getElem?_eq_some_iff.1 hy).1
  rw [List.length_set] at hk
  have hA2 := (h1'.lt gA rfl).2
  rw [List.getElem?_set] at hy
  by_cases e : i = k
  · subst e
    rw [if_pos rfl, if_pos hil] at hy
    cases hy
    have h5 := own_set (k := 0) ho (.int .i64 z)
    have h6 : (is x).set 0 (.int .i64 z) = is (x.set 0 z) := by unfold is; rw [List.map_set]
    rw [h6] at h5
    refine ⟨⟨gA, 0, Option.none⟩, _, rfl, hA2, by rw [add_plain, Nat.zero_add]; exact (h1'.cellAt i (by omega)).trans hu, ?_⟩
    have hl : (x.set 0 z).length = x.length := List.length_set
    rw [← hl] at h5
    rw [← hl]
    exact IsRow.of_own h5
  · rw [if_neg e] at hy
    obtain ⟨u2, hu2, ho2⟩ := h2 k y hy
    refine ⟨⟨gA, 0, Option.none⟩, u2, rfl, hA2, by rw [add_plain, Nat.zero_add]; exact (h1'.cellAt k (by omega)).trans hu2, ?_⟩
    refine IsRow.of_own (ownsRow_setCell_other (a := ⟨g, 0, Option.none⟩) ho2 (fun e2 => ?_) (.int .i64 z))
    rcases Nat.lt_or_gt_of_ne e with h7 | h7
    · exact absurd (h3 i k _ u2 g g h7 hu hu2 rfl e2) (Nat.lt_irrefl _)
    · exact absurd (h3 k i u2 _ g g h7 hu2 hu e2 rfl) (Nat.lt_irrefl _)

set_option maxRecDepth 100000 in
set_option maxHeartbeats 2000000 in
theorem sub_own39 (xv yv : Value) (x y : List Int) (w : World) (hx : IsRow w w.heap.size xv x) (hy : IsRow w w.heap.size yv y) (hl : x.length = y.length) (hn : x.length ≤ 1000) (hb : ∀ j : Nat, (x[j]?.getD 0).natAbs ≤ 1000000 ∧ (y[j]?.getD 0).natAbs ≤ 1000000) :
    Calls Tryz.prog 14 #[xv, yv] w fun e w' => (∃ v, e = .returned v ∧ w'.ownsRow w.heap.size 3 1 v (difI x y).length (is (difI x y))) ∧ Below w.heap.size w w' := by
  obtain ⟨i0, hi0, hz0, hz1, hz2⟩ := info_parts Tryz.info_int
  have HXY : Box (x.length = y.length) := ⟨hl⟩
  have HEX : Box (∀ j : Nat, (x[j]?.getD 0).natAbs ≤ 1000000 ∧ (y[j]?.getD 0).natAbs ≤ 1000000) := ⟨hb⟩
  have HDI : Hid (sumTo x y (-1) x.length = difI x y) := Lib.hid rfl
  obtain ⟨AX, cx, rfl, hxc, hxm, hxr⟩ := hx
  obtain ⟨AY, cy, rfl, hyc, hym, hyr⟩ := hy
  clear hl hxc hxm hyc hym hb
  go_enter Tryz.func14, Tryz.ntmps14
  go_wp2_with fail
  go_loopw [5, 9] (fun o i wr => ∃ j : Nat, j ≤ x.length ∧ i = .int .i64 j ∧ wr.ownsRow w.heap.size 3 1 o j (is (sumTo x y (-1) j)) ∧ Below w.heap.size w wr) (fun _ i _ => x.length - (intOf i).toNat)
  case atStart => exact ⟨0, Nat.zero_le _, rfl, World.ownsRow_nil _ _ _ _, Below.refl _ _⟩
  case round =>
    obtain ⟨j, hj, rfl, hown, hbw⟩ := hrel
    have HO := Lib.hid hown
    clear hown
    by_cases hlt : j < x.length
    · obtain ⟨ad1, rfl, _, hc1⟩ := (hxr.below hbw (Nat.le_refl _)).i_at hlt
      obtain ⟨ad2, rfl, _, hc2⟩ := (hyr.below hbw (Nat.le_refl _)).i_at (k := j) (by rw [← HXY.out]; exact hlt)
      have hbd := HEX.out j
      have e3 : sumTo x y (-1) (j + 1) = sumTo x y (-1) j ++ [x[j]?.getD 0 - y[j]?.getD 0] := by
        show _ ++ [x[j]?.getD 0 + -1 * y[j]?.getD 0] = _
        rw [show x[j]?.getD 0 + -1 * y[j]?.getD 0 = x[j]?.getD 0 - y[j]?.getD 0 by omega]
      generalize x[j]?.getD 0 = a at *
      generalize y[j]?.getD 0 = b at *
      have E3 := Lib.hid e3
      clear e3
      have hly : (j : Int) < (y.length : Int) := by have := HXY.out; omega
      have hlx : (j : Int) < (x.length : Int) := by omega
      have hj0 : (0 : Int) ≤ (j : Int) := by omega
      have hw2 : IntKind.i64.wrap (a - b) = a - b := IntWalk.i64_in _ (by omega)
      go_wp2
      have hb1 : ad1.block < wr.heap.size := cell_lt_add hc1
      have hb2 : ad2.block < wr.heap.size := cell_lt_add hc2
      go_region_held3 (fun w' => w'.cell? (ad1.add j) = some (.int .i64 a) ∧ w'.cell? (ad2.add j) = some (.int .i64 b))
        (first | go_keep | (go_split_ands; exact ⟨(hgrow.cell_far _ (by rw [add_block]; simp; omega) (by rw [add_block]; exact fun e => by have := (HO.out.lt _ e.symm).1; omega)).trans (by assumption), (hgrow.cell_far _ (by rw [add_block]; simp; omega) (by rw [add_block]; exact fun e => by have := (HO.out.lt _ e.symm).1; omega)).trans (by assumption)⟩))
        ((refine step_append_lies _ (by rfl) _ _ _ (by rfl) w.heap.size 3 i0 _ 1 8 Tryz.underlying41 hi0 hz0 hz1 hz2 rfl (by omega) u5 j _ (by rfl) ((HO.out.alloc _).drew) ⟨wr.heap.size, 0, Option.none⟩ 1 1 [.int .i64 (a - b)] (by rfl) (by rfl) (World.news_of_block (cs := #[.int .i64 (a - b)]) (t := 3) (fr := (0, 0)) (heap_alloc_new wr _)) (by simp [Value.oneCell']) (by omega) (by unfold maxLen; omega) (by omega) (by have := hbw.size; simp; omega) (wr.heap.size + 1) (by simp) ?_; intro gg cap w3 hown3 hgrow hat hlt3))
      clear hw2
      go_wp2
      go_roundw
      case rel =>
        refine ⟨j + 1, by omega, by go_num, ?_, ?_⟩
        · rw [E3.out, is_append]; exact hown3
        · exact ((hbw.alloc hbw.size _).drew).grown hgrow (by have := hbw.size; simp; omega) (fun k hk => (HO.out.lt k hk).1)
      case measure => simp [intOf]; omega
    · obtain rfl : j = x.length := by omega
      have HRI : Hid (wr.ownsRow w.heap.size 3 1 u5 (difI x y).length (is (difI x y))) := Lib.hid (by
        have h := HO.out
        rw [HDI.out] at h
        rw [difI_len]
        exact h)
      obtain ⟨AR, cr, e9⟩ := (ORow.of_own HRI.out).shape
      subst e9
      clear HO
      go_wp2_with fail
      go_ret
      exact ⟨⟨_, rfl, HRI.out⟩, hbw⟩

set_option maxRecDepth 100000 in
set_option maxHeartbeats 4000000 in
theorem rooted_own39 (A : Option Addr) (c : Nat) (l : List (List Int)) (k0 : Nat) (w : World) (hl : RowsAt w w.heap.size A l) (hk0 : k0 < l.length) (hn : l.length ≤ 1000) (n : Nat) (hn2 : n ≤ 1000) (hln : ∀ x ∈ l, x.length = n) (hb : ∀ x ∈ l, ∀ j : Nat, (x[j]?.getD 0).natAbs ≤ 1000000) :
    Calls Tryz.prog 24 #[.slice A l.length c, .int .i64 k0] w fun e w' => (∃ v, e = .returned v ∧ LRowD w' w.heap.size v (rootL l l[k0])) ∧ Below w.heap.size w w' := by
  obtain ⟨i0, hi0, hz0, hz1, hz2⟩ := info_parts Tryz.info_row
  obtain ⟨b, o, rv, rfl, hab, hca, hrow⟩ := rows_pl hl (List.getElem?_eq_getElem hk0)
  have HL : Box (RowsAt w w.heap.size (some ⟨b, o, Option.none⟩) l) := ⟨hl⟩
  have HLN : Box (∀ x ∈ l, x.length = n) := ⟨hln⟩
  have HBD : Box (∀ x ∈ l, ∀ j : Nat, (x[j]?.getD 0).natAbs ≤ 1000000) := ⟨hb⟩
  have HR := Lib.hid hrow
  have HRL := Lib.hid (hln _ (List.getElem_mem hk0))
  have HRB : Box (∀ j : Nat, ((l[k0]'hk0)[j]?.getD 0).natAbs ≤ 1000000) := ⟨hb _ (List.getElem_mem hk0)⟩
  have hk0i : (k0 : Int) < (l.length : Int) := by omega
  have hk00 : (0 : Int) ≤ (k0 : Int) := by omega
  generalize l[k0]'hk0 = r at *
  obtain ⟨AR, cr, rfl⟩ := hrow.shape
  clear hl hln hb hrow
  go_enter Tryz.func24, Tryz.ntmps24
  go_wp2_with fail
  go_loopw [5, 10] (fun out i wr => ∃ (k : Nat), k ≤ l.length ∧ i = .int .i64 k ∧ LRowD wr w.heap.size out (rootL (l.take k) r) ∧ Below w.heap.size w wr) (fun _ i _ => l.length - (intOf i).toNat)
  case atStart => exact ⟨0, Nat.zero_le _, rfl, LRowD.nil _ _, Below.refl _ _⟩
  case round =>
    obtain ⟨k, hk, rfl, hlr, hbw⟩ := hrel
    by_cases hlt : k < l.length
    · obtain ⟨b', o', xv, e', hab2, hcx, hrox⟩ := rows_pl HL.out (List.getElem?_eq_getElem hlt)
      cases e'
      have hcx' := (hbw.cell (p := ⟨b, o + k, Option.none⟩) hab2).trans hcx
      have hca' := (hbw.cell (p := ⟨b, o + k0, Option.none⟩) hab).trans hca
      have HXL := Lib.hid (HLN.out _ (List.getElem_mem hlt))
      have HXB : Box (∀ j : Nat, ((l[k]'hlt)[j]?.getD 0).natAbs ≤ 1000000) := ⟨HBD.out _ (List.getElem_mem hlt)⟩
      have HNX := Lib.hid (rootL_snoc (r := r) hlt)
      have HLE : Hid ((rootL (l.take k) r).length = k) := Lib.hid (by rw [rootL_len, List.length_take]; omega)
      generalize l[k]'hlt = x at *
      have HSU := Lib.hid (sub_own39 xv _ x r wr (hrox.lift hbw) (HR.out.lift hbw) (by rw [HXL.out, HRL.out]) (by rw [HXL.out]; exact hn2) (fun j => ⟨HXB.out j, HRB.out j⟩))
      obtain ⟨AX, cx, rfl⟩ := hrox.shape
      have HLR := Lib.hid hlr
      have HB := Lib.hid hbw
      clear hlr hbw hcx hrox
      go_wp2_with fail
      refine HSU.out.mono ?_
      rintro e w1 ⟨⟨v, rfl, hor⟩, hb1⟩
      have HB1 := Lib.hid (HB.out.trans (hb1.mono HB.out.size))
      obtain ⟨vs, hown0, hvs0, hdis⟩ := HLR.out
      have hlts : ∀ (i : Nat) (u : Value) (g : Nat), vs[i]? = some u → u.ownBlock = some g → g < wr.heap.size := LRowD.lts hown0 hvs0
      have hown := own_below hown0 hb1
      have hvs : ∀ (j : Nat) (y : List Int), (rootL (l.take k) r)[j]? = some y → ∃ u, vs[j]? = some u ∧ w1.ownsRow w.heap.size 3 1 u y.length (is y) := fun j y hj => by
        obtain ⟨u, h1, h2⟩ := hvs0 j y hj
        exact ⟨u, h1, own_below h2 hb1⟩
      have hws : w.heap.size ≤ wr.heap.size := HB.out.size
      clear hb1 HLR HB HSU hown0 hvs0
      have HOR := Lib.hid hor
      obtain ⟨AD, cd, rfl⟩ := (ORow.of_own hor).shape
      rw [HLE.out] at hown
      have HO := Lib.hid hown
      have HVS := Lib.hid hvs
      have HDS := Lib.hid hdis
      have HLT := Lib.hid hlts
      have hwk : w.heap.size ≤ w1.heap.size := HB1.out.size
      clear hor hown hvs hdis hlts
      go_wp2_with (at_builtin; refine wpList_append_own _ rfl _ _ _ rfl w.heap.size 41 i0 (.slice Option.none 0 0) 1 24 Tryz.underlying30 hi0 hz0 hz1 hz2 rfl (by decide) _ _ _ rfl (HO.out.alloc _) ⟨w1.heap.size, 0, Option.none⟩ 1 1 [_] rfl rfl (cell_one_new _ _ _) (by intro u hu; simp at hu; subst hu; rfl) (by unfold maxLen; omega) (by omega) (by simp; omega) ?_; intro v9 w9 hown9 hg9 _)
      go_roundw
      case rel =>
        refine ⟨k + 1, by omega, by go_num, ?_, (HB1.out.alloc hwk _).grown hg9 (by simp; omega) (fun k hk => (HO.out.lt k hk).1)⟩
        rw [HNX.out]
        have hO := HO.out
        rw [← HLE.out] at hO hown9
        exact LRowD.snoc (hO.alloc _) (fun j y hj => by obtain ⟨u, h1, h2⟩ := HVS.out j y hj; exact ⟨u, h1, h2.alloc _⟩) HDS.out HLT.out (HOR.out.alloc _) hws hown9 hg9
      case measure => simp [intOf]; omega
    · obtain rfl : k = l.length := by omega
      rw [List.take_length] at hlr
      have HLR := Lib.hid hlr
      obtain ⟨A1, c1, rfl⟩ := hlr.lrow.shape
      clear hlr
      go_wp2_with fail
      go_ret
      exact ⟨⟨_, rfl, HLR.out⟩, hbw⟩

theorem rooted_first39 (A : Option Addr) (c : Nat) (l : List (List Int)) (w : World) (hl : RowsAt w w.heap.size A l) (h0 : 0 < l.length) (hn : l.length ≤ 1000) (n : Nat) (hn2 : n ≤ 1000) (hln : ∀ x ∈ l, x.length = n) (hb : ∀ x ∈ l, ∀ j : Nat, (x[j]?.getD 0).natAbs ≤ 1000000) :
    Calls Tryz.prog 24 #[.slice A l.length c, .int .i64 0] w fun e w' => (∃ v, e = .returned v ∧ LRowD w' w.heap.size v (rootL l (l[0]?.getD []))) ∧ Below w.heap.size w w' := by
  have h := rooted_own39 A c l 0 w hl h0 hn n hn2 hln hb
  rw [List.getElem?_eq_getElem h0]
  exact h

end Go.Proofs.YtaiglcbgllnciaaGreatDoor
