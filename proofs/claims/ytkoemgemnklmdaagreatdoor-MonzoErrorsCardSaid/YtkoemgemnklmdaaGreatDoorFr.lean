/- monzo.short, monzo.Fraction, fraction.Text, monzo.Text. -/
import Derived.Test.YtkoemgemnklmdaaGreatDoorSides2
import Derived.Laws.ResultCell
namespace Go.Proofs.YtkoemgemnklmdaaGreatDoor
open Go.RowKit Go.Lib

set_option maxHeartbeats 400000 in
theorem short_yes (l : List UInt8) (w : World) (h : l.length ≤ 400) :
    Calls Tryz.prog 65 #[.string ⟨l.toArray⟩] w fun e w' => e = .returned (.tuple #[.string ⟨l.toArray⟩, .int .i64 0]) ∧ w = w' := by
  go_enter Tryz.func65, Tryz.ntmps65
  go_wp2
  go_ret2
  exact ⟨rfl, rfl⟩

set_option maxHeartbeats 400000 in
theorem short_no (l : List UInt8) (w : World) (h : 400 < l.length) (_hl : l.length ≤ 1000000) :
    Calls Tryz.prog 65 #[.string ⟨l.toArray⟩] w fun e w' => e = .returned (.tuple #[.string ⟨#[]⟩, .int .i64 4]) ∧ w = w' := by
  go_enter Tryz.func65, Tryz.ntmps65
  go_wp2
  go_ret2
  exact ⟨rfl, rfl⟩

/-- What Fraction returns for two numbers: the fraction, or the error. -/
def fracOut (a b : List UInt8) : Value := if a.length ≤ 400 ∧ b.length ≤ 400 then .tuple #[.agg #[.string ⟨a.toArray⟩, .string ⟨b.toArray⟩], .int .i64 0] else .tuple #[.agg #[.string ⟨#[]⟩, .string ⟨#[]⟩], .int .i64 4]

/-- The two cells of a result that lies in memory. -/
theorem two_below {w w' : World} {a b : Value} {t : TypeId} (hb : Below (w.heap.size + 1) (w.alloc (.cells #[a, b] t)) w') :
    w'.cell? ⟨w.heap.size, 0, Option.none⟩ = some a ∧ w'.cell? ⟨w.heap.size, 1, Option.none⟩ = some b ∧ w'.frozen? ⟨w.heap.size, 0, Option.none⟩ = false ∧ w'.frozen? ⟨w.heap.size, 1, Option.none⟩ = false ∧ w.heap.size < w'.heap.size := by
  refine ⟨?_, ?_, ?_, ?_, ?_⟩
  · rw [hb.cell (p := ⟨w.heap.size, 0, Option.none⟩) (by simp), World.cell?_alloc_new]; rfl
  · rw [hb.cell (p := ⟨w.heap.size, 1, Option.none⟩) (by simp), World.cell?_alloc_new]; rfl
  · rw [hb.frozen (p := ⟨w.heap.size, 0, Option.none⟩) (by simp), World.frozen?_alloc_new]
  · rw [hb.frozen (p := ⟨w.heap.size, 1, Option.none⟩) (by simp), World.frozen?_alloc_new]
  · have := hb.size; simp at this; omega

theorem below_result {w w1 : World} {o : Obj} (hb : Below (w.heap.size + 1) (w.alloc o) w1) : Below w.heap.size w w1 := ((Below.refl _ _).alloc (Nat.le_refl _) o).trans (hb.mono (by omega))

set_option maxHeartbeats 1000000 in
theorem fraction_err (pv xv : Value) (p x : List Int) (w : World) (hp : IsRow w w.heap.size pv p) (hx : IsRow w w.heap.size xv x) (h : (chkAll p [x] != 0) = true) :
    Calls Tryz.prog 29 #[pv, xv] w fun e w' => e = .returned (.tuple #[.agg #[.string ⟨#[]⟩, .string ⟨#[]⟩], .int .i64 (chkAll p [x])]) ∧ Below w.heap.size w w' := by
  have HC := Lib.hid (check_any pv xv p x (w.alloc (.cells #[.string ⟨#[]⟩, .string ⟨#[]⟩] 38)) ((hp.alloc (Nat.le_refl _) _).up (by simp)) ((hx.alloc (Nat.le_refl _) _).up (by simp)))
  generalize chkAll p [x] = q at *
  obtain ⟨AP, cp, rfl, _⟩ := hp
  obtain ⟨AX, cx, rfl, _⟩ := hx
  go_enter Tryz.func29, Tryz.ntmps29
  go_wp2_with fail
  refine HC.out.mono ?_
  rintro e w1 ⟨rfl, hb1⟩
  rw [World.size_alloc] at hb1
  obtain ⟨q0, q1, q2, q3, q4⟩ := two_below hb1
  go_wp2_with fail
  refine bodyPost_ret (v := .tuple #[.agg #[.string ⟨#[]⟩, .string ⟨#[]⟩], .int .i64 q]) (by simp [results, Tryz.results29, go_sem, q0, q1]) rfl ⟨rfl, ?_⟩
  exact ((below_result hb1).setCell (Nat.le_refl _) _).setCell (Nat.le_refl _) _

theorem rat_index0 (a b : Value) (w : World) : (Instr.index 98 (.agg #[a, b]) (.int .i64 0)).run Tryz.prog w = .ok a w := by kernel_rfl
theorem rat_index1 (a b : Value) (w : World) : (Instr.index 98 (.agg #[a, b]) (.int .i64 1)).run Tryz.prog w = .ok b w := by kernel_rfl

set_option maxHeartbeats 1000000 in
theorem fraction_run (pv xv : Value) (p x : List Int) (a b : List UInt8) (w : World) (hp : IsRow w w.heap.size pv p) (hx : IsRow w w.heap.size xv x) (h : chkAll p [x] = 0) (la : a.length ≤ 100000) (lb : b.length ≤ 100000)
    (HD : Hid (∀ W, IsRow W W.heap.size pv p → IsRow W W.heap.size xv x → Std W → Calls Tryz.prog 64 #[pv, xv] W fun e w' => e = .returned (.tuple #[.string ⟨a.toArray⟩, .string ⟨b.toArray⟩]) ∧ Below W.heap.size W w')) (HS : Hid (Std w)) :
    Calls Tryz.prog 29 #[pv, xv] w fun e w' => e = .returned (fracOut a b) ∧ Below w.heap.size w w' := by
  have HC := Lib.hid (check_any pv xv p x (w.alloc (.cells #[.string ⟨#[]⟩, .string ⟨#[]⟩] 38)) ((hp.alloc (Nat.le_refl _) _).up (by simp)) ((hx.alloc (Nat.le_refl _) _).up (by simp)))
  rw [h] at HC
  clear h
  have HP := Lib.hid hp
  have HX := Lib.hid hx
  obtain ⟨AP, cp, rfl, _⟩ := hp
  obtain ⟨AX, cx, rfl, _⟩ := hx
  have i0 := rat_index0 (.string ⟨a.toArray⟩) (.string ⟨b.toArray⟩)
  have i1 := rat_index1 (.string ⟨a.toArray⟩) (.string ⟨b.toArray⟩)
  have HI := Lib.hid (And.intro i0 i1)
  clear i0 i1
  go_enter Tryz.func29, Tryz.ntmps29
  go_wp2_with fail
  refine HC.out.mono ?_
  rintro e w1 ⟨rfl, hb1⟩
  rw [World.size_alloc] at hb1
  have hbw1 := below_result hb1
  go_wp2_with fail
  refine (HD.out _ (HP.out.lift hbw1) (HX.out.lift hbw1) (HS.out.below hbw1 (Nat.le_refl _))).mono ?_
  rintro e w2 ⟨rfl, hb2⟩
  have hb12 : Below (w.heap.size + 1) (w.alloc (.cells #[.string ⟨#[]⟩, .string ⟨#[]⟩] 38)) w2 := hb1.trans (hb2.mono (by have := hb1.size; simp at this; omega))
  obtain ⟨q0, q1, q2, q3, q4⟩ := two_below hb12
  have hbw2 := below_result hb12
  clear hb1 hbw1 hb2 hb12
  go_wp2_with fail
  go_loop [29] (fun i => ∃ k : Nat, k ≤ 2 ∧ i = .int .i64 k ∧ (1 ≤ k → a.length ≤ 400) ∧ (2 ≤ k → b.length ≤ 400)) (fun i => 2 - (intOf i).toNat)
  case atStart => exact ⟨0, by omega, rfl, fun h => by omega, fun h => by omega⟩
  case round =>
    obtain ⟨k, hk, rfl, ha, hb⟩ := hrel
    obtain ⟨i0, i1⟩ := HI.out
    match k, hk with
    | 0, _ =>
      clear ha hb i1
      by_cases h4 : a.length ≤ 400
      · have HSH := Lib.hid (short_yes a w2 h4)
        go_wp2_with (go_at_call 65; refine HSH.out.mono ?_; rintro e w3 ⟨rfl, rfl⟩)
        go_round
        case rel => exact ⟨1, by omega, by go_num, fun _ => h4, fun h => by omega⟩
        case measure => simp [intOf]
      · have HSH := Lib.hid (short_no a w2 (by omega) (by omega))
        have HE : Box (¬ (a.length ≤ 400 ∧ b.length ≤ 400)) := ⟨fun h => h4 h.1⟩
        go_wp2_with (go_at_call 65; refine HSH.out.mono ?_; rintro e w3 ⟨rfl, rfl⟩)
        refine bodyPost_ret (v := .tuple #[.agg #[.string ⟨#[]⟩, .string ⟨#[]⟩], .int .i64 4]) (by simp [results, Tryz.results29, go_sem, q0, q1]) rfl ⟨by unfold fracOut; rw [if_neg HE.out], ?_⟩
        exact (hbw2.setCell (Nat.le_refl _) _).setCell (Nat.le_refl _) _
    | 1, _ =>
      have h4 := ha (by omega)
      clear ha hb i0
      by_cases h5 : b.length ≤ 400
      · have HSH := Lib.hid (short_yes b w2 h5)
        go_wp2_with (go_at_call 65; refine HSH.out.mono ?_; rintro e w3 ⟨rfl, rfl⟩)
        go_round
        case rel => exact ⟨2, by omega, by go_num, fun _ => h4, fun _ => h5⟩
        case measure => simp [intOf]
      · have HSH := Lib.hid (short_no b w2 (by omega) (by omega))
        have HE : Box (¬ (a.length ≤ 400 ∧ b.length ≤ 400)) := ⟨fun h => h5 h.2⟩
        go_wp2_with (go_at_call 65; refine HSH.out.mono ?_; rintro e w3 ⟨rfl, rfl⟩)
        refine bodyPost_ret (v := .tuple #[.agg #[.string ⟨#[]⟩, .string ⟨#[]⟩], .int .i64 4]) (by simp [results, Tryz.results29, go_sem, q0, q1]) rfl ⟨by unfold fracOut; rw [if_neg HE.out], ?_⟩
        exact (hbw2.setCell (Nat.le_refl _) _).setCell (Nat.le_refl _) _
    | 2, _ =>
      have HE : Box (a.length ≤ 400 ∧ b.length ≤ 400) := ⟨ha (by omega), hb (by omega)⟩
      clear ha hb i0 i1
      go_wp2_with fail
      refine bodyPost_ret (v := .tuple #[.agg #[.string ⟨a.toArray⟩, .string ⟨b.toArray⟩], .int .i64 0]) (by simp [results, Tryz.results29, go_sem, q0, q1]) rfl ⟨by unfold fracOut; rw [if_pos HE.out], ?_⟩
      exact (hbw2.setCell (Nat.le_refl _) _).setCell (Nat.le_refl _) _

end Go.Proofs.YtkoemgemnklmdaaGreatDoor
