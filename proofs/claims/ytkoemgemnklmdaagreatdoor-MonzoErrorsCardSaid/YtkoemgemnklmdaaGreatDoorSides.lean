/- monzo.Check, monzo.result, monzo.sides, monzo.short, monzo.Fraction. -/
import Derived.Test.YtkoemgemnklmdaaGreatDoorMon
namespace Go.Proofs.YtkoemgemnklmdaaGreatDoor
open Go.RowKit Go.Lib

theorem IsRow.keep {w w' : World} {B : Nat} {v : Value} {x : List Int} (h : IsRow w B v x) (hb : Below B w w') : IsRow w' B v x := by
  obtain ⟨A, c, e, h1, h2, hr⟩ := h
  exact ⟨A, c, e, h1, h2, hr.below hb (Nat.le_refl _)⟩
theorem IsRow.up {w : World} {B B' : Nat} {v : Value} {x : List Int} (h : IsRow w B v x) (hB : B ≤ B') : IsRow w B' v x := by
  obtain ⟨A, c, e, h1, h2, hr⟩ := h
  exact ⟨A, c, e, h1, h2, hr.up hB⟩
theorem IsRow.alloc {w : World} {B : Nat} {v : Value} {x : List Int} (h : IsRow w B v x) (hB : B ≤ w.heap.size) (o : Obj) : IsRow (w.alloc o) B v x := by
  obtain ⟨A, c, e, h1, h2, hr⟩ := h
  exact ⟨A, c, e, h1, h2, hr.alloc hB o⟩
theorem IsRow.lift {w w' : World} {v : Value} {x : List Int} (h : IsRow w w.heap.size v x) (hb : Below w.heap.size w w') : IsRow w' w'.heap.size v x := (h.keep hb).up hb.size

theorem rowsAt_one (w : World) (v : Value) (x : List Int) (t : TypeId) (hv : IsRow w w.heap.size v x) : RowsAt (w.alloc (.cells #[v] t)) (w.heap.size + 1) (some ⟨w.heap.size, 0, Option.none⟩) [x] := by
  refine ⟨fun k y hy => ?_⟩
  match k, hy with
  | 0, hy =>
    simp at hy
    subst hy
    exact ⟨_, v, rfl, by simp, by rw [addr0, World.cell?_alloc_new]; rfl, (hv.alloc (Nat.le_refl _) _).up (by omega)⟩
theorem rowsAt_two (w : World) (v u : Value) (x y : List Int) (t : TypeId) (hv : IsRow w w.heap.size v x) (hu : IsRow w w.heap.size u y) : RowsAt (w.alloc (.cells #[v, u] t)) (w.heap.size + 1) (some ⟨w.heap.size, 0, Option.none⟩) [x, y] := by
  refine ⟨fun k z hz => ?_⟩
  match k, hz with
  | 0, hz =>
    simp at hz
    subst hz
    exact ⟨_, v, rfl, by simp, by rw [addr0, World.cell?_alloc_new]; rfl, (hv.alloc (Nat.le_refl _) _).up (by omega)⟩
  | 1, hz =>
    simp at hz
    subst hz
    exact ⟨_, u, rfl, by simp, by rw [addr0, World.cell?_alloc_new]; rfl, (hu.alloc (Nat.le_refl _) _).up (by omega)⟩

set_option maxHeartbeats 400000 in
theorem check_any (pv xv : Value) (p x : List Int) (w : World) (hp : IsRow w w.heap.size pv p) (hx : IsRow w w.heap.size xv x) :
    Calls Tryz.prog 19 #[pv, xv] w fun e w' => e = .returned (.int .i64 (chkAll p [x])) ∧ Below w.heap.size w w' := by
  have HC := Lib.hid (checkAll_any pv p (some ⟨w.heap.size, 0, Option.none⟩) 1 (w.heap.size + 1) [x] (w.alloc (.cells #[xv] 24)) ((hp.alloc (Nat.le_refl _) _).up (by omega)) (rowsAt_one w xv x _ hx) (by simp))
  obtain ⟨AP, cp, rfl, _⟩ := hp
  obtain ⟨AX, cx, rfl, _⟩ := hx
  go_enter Tryz.func19, Tryz.ntmps19
  go_wp2_with (go_at_call 20; refine HC.out.mono ?_; rintro e w1 ⟨rfl, rfl⟩)
  go_ret
  exact ⟨rfl, (Below.refl _ _).alloc (Nat.le_refl _) _⟩

set_option maxHeartbeats 400000 in
theorem result_yes (pv xv : Value) (p x : List Int) (w : World) (hp : IsRow w w.heap.size pv p) (hx : IsRow w w.heap.size xv x) (h : chkAll p [x] = 0) :
    Calls Tryz.prog 60 #[pv, xv] w fun e w' => e = .returned (.tuple #[xv, .int .i64 0]) ∧ Below w.heap.size w w' := by
  have HC := Lib.hid (checkAll_any pv p (some ⟨w.heap.size, 0, Option.none⟩) 1 (w.heap.size + 1) [x] (w.alloc (.cells #[xv] 24)) ((hp.alloc (Nat.le_refl _) _).up (by omega)) (rowsAt_one w xv x _ hx) (by simp))
  rw [h] at HC
  clear h
  obtain ⟨AP, cp, rfl, _⟩ := hp
  obtain ⟨AX, cx, rfl, _⟩ := hx
  go_enter Tryz.func60, Tryz.ntmps60
  go_wp2_with (go_at_call 20; refine HC.out.mono ?_; rintro e w1 ⟨rfl, rfl⟩)
  go_ret2
  exact ⟨rfl, (Below.refl _ _).alloc (Nat.le_refl _) _⟩

set_option maxHeartbeats 400000 in
theorem result_no (pv xv : Value) (p x : List Int) (w : World) (hp : IsRow w w.heap.size pv p) (hx : IsRow w w.heap.size xv x) (h : (chkAll p [x] != 0) = true) :
    Calls Tryz.prog 60 #[pv, xv] w fun e w' => e = .returned (.tuple #[.slice Option.none 0 0, .int .i64 4]) ∧ Below w.heap.size w w' := by
  have HC := Lib.hid (checkAll_any pv p (some ⟨w.heap.size, 0, Option.none⟩) 1 (w.heap.size + 1) [x] (w.alloc (.cells #[xv] 24)) ((hp.alloc (Nat.le_refl _) _).up (by omega)) (rowsAt_one w xv x _ hx) (by simp))
  generalize chkAll p [x] = q at *
  obtain ⟨AP, cp, rfl, _⟩ := hp
  obtain ⟨AX, cx, rfl, _⟩ := hx
  go_enter Tryz.func60, Tryz.ntmps60
  go_wp2_with (go_at_call 20; refine HC.out.mono ?_; rintro e w1 ⟨rfl, rfl⟩)
  go_ret2
  exact ⟨rfl, (Below.refl _ _).alloc (Nat.le_refl _) _⟩

/-! ### Right intervals -/

/-- A right list of primes with a right interval, as numbers. -/
structure Right (p x : List Int) : Prop where
  len : x.length = p.length
  six : p.length ≤ 6
  pr : ∀ k, k < p.length → 2 ≤ p[k]?.getD 0 ∧ p[k]?.getD 0 ≤ 97
  ex : ∀ k, k < x.length → -1000 ≤ x[k]?.getD 0 ∧ x[k]?.getD 0 ≤ 1000

theorem pErr_zero : ∀ (l : List Int) (prev : Option Int), pErr prev l = 0 → ∀ v ∈ l, primeB v = true
  | [], _, _, v, hv => by simp at hv
  | n :: r, prev, h, v, hv => by
    rw [pErr] at h
    by_cases hp : primeB n = false
    · rw [if_pos hp] at h; omega
    · rw [if_neg hp] at h
      split at h
      · omega
      · rcases List.mem_cons.1 hv with rfl | hv
        · simpa using hp
        · exact pErr_zero r _ h v hv

theorem right_primes {p : List Int} (h : primeErr p = 0) : p.length ≤ 6 ∧ 1 ≤ p.length ∧ ∀ k, k < p.length → 2 ≤ p[k]?.getD 0 ∧ p[k]?.getD 0 ≤ 97 := by
  unfold primeErr at h
  split at h
  · omega
  · split at h
    · omega
    · refine ⟨by omega, by omega, fun k hk => ?_⟩
      have := pErr_zero p _ h p[k] (List.getElem_mem hk)
      unfold primeB at this
      rw [Bool.and_eq_true, Bool.and_eq_true, decide_eq_true_iff, decide_eq_true_iff] at this
      rw [List.getElem?_eq_getElem hk]
      exact this.1

theorem rowErr_zero {n : Nat} {x : List Int} (h : rowErr n x = 0) : x.length = n ∧ ∀ k, k < x.length → -1000 ≤ x[k]?.getD 0 ∧ x[k]?.getD 0 ≤ 1000 := by
  unfold rowErr at h
  split at h
  · omega
  · split at h
    · omega
    · rename_i h1 h2
      refine ⟨by omega, fun k hk => ?_⟩
      have h3 : ¬ farB x[k] = true := fun hf => h2 (List.any_eq_true.2 ⟨_, List.getElem_mem hk, hf⟩)
      unfold farB at h3
      simp at h3
      rw [List.getElem?_eq_getElem hk]
      simp
      omega

theorem right_of {p x : List Int} (h : chkAll p [x] = 0) : Right p x := by
  unfold chkAll at h
  by_cases hp : primeErr p = 0
  · rw [if_neg (by simpa using hp), rowsErr] at h
    have hr : rowErr p.length x = 0 := by
      by_cases hr : rowErr p.length x = 0
      · exact hr
      · rw [if_pos hr] at h; exact h
    obtain ⟨h1, _, h2⟩ := right_primes hp
    obtain ⟨h3, h4⟩ := rowErr_zero hr
    exact ⟨h3, h1, h2, h4⟩
  · rw [if_pos hp] at h
    exact absurd h hp

end Go.Proofs.YtkoemgemnklmdaaGreatDoor
