/- target.Odd: the errors. -/
import Derived.Test.YtcfkclafpbaagaaGreatDoorIn3G
namespace Go.Proofs.YtcfkclafpbaagaaGreatDoor
open Go.RowKit Go.Lib Go.Shelf

attribute [local go_sem] Oper.semAt_some

set_option maxRecDepth 100000 in
set_option maxHeartbeats 4000000 in
theorem tgodd_err (pv : Value) (p : List Int) (z : Int) (w : World) (hp : IsRow w w.heap.size pv p) (hne : (limErr p z != 0) = true) :
    Calls Tryz.prog 22 #[pv, .int .i64 z] w fun e w' => e = .returned (.tuple #[.slice Option.none 0 0, .int .i64 (limErr p z)]) ∧ Below w.heap.size w w' := by
  have HCL := Lib.hid (checkLimit_any pv p z _ hp)
  obtain ⟨AP, cp, rfl⟩ := hp.shape
  clear hp
  generalize limErr p z = q at *
  refine (callsIn_wide (n := 3)).1 ?_
  refine callsIn_of_wp_marks Tryz.func22 rfl trivial ?_ rfl
  simp only [Tryz.ntmps22, List.size_toArray, List.length_cons, List.length_nil, Nat.reduceAdd, Nat.reduceSub, Array.replicate_succ, Array.replicate_zero, List.push_toArray, List.append_toArray, List.nil_append, List.cons_append]
  gi_wp2_with (refine ⟨trivial, ?_⟩; gi_at_call 50; refine (callsIn_wide.2 HCL.out).mono ?_; rintro e w1 ⟨rfl, rfl⟩)
  exact ⟨.tuple #[.slice Option.none 0 0, .int .i64 q], by simp [results, Tryz.results22, go_sem], rfl, Below.refl _ _⟩

set_option maxRecDepth 100000 in
set_option maxHeartbeats 4000000 in
theorem tgodd_two (pv : Value) (p : List Int) (z : Int) (w : World) (hp : IsRow w w.heap.size pv p) (h0 : limErr p z = 0) (hl : 0 < p.length) (h2 : p[0]?.getD 0 ≠ 2) :
    Calls Tryz.prog 22 #[pv, .int .i64 z] w fun e w' => e = .returned (.tuple #[.slice Option.none 0 0, .int .i64 25]) ∧ Below w.heap.size w w' := by
  have HCL := Lib.hid (checkLimit_any pv p z _ hp)
  rw [h0] at HCL
  obtain ⟨AP, cp, rfl, _, _, hpr⟩ := hp
  obtain ⟨ad, rfl, hadb, hc0⟩ := hpr.i_at (k := 0) hl
  rw [show ad.add 0 = ad by unfold Addr.add; simp] at hc0
  have hne : ((p[0]?.getD 0 : Int) != 2) = true := by simpa using h2
  have hl0 : (0 : Int) < (p.length : Int) := by omega
  clear hpr h0 h2
  generalize p[0]?.getD 0 = q at *
  refine (callsIn_wide (n := 3)).1 ?_
  refine callsIn_of_wp_marks Tryz.func22 rfl trivial ?_ rfl
  simp only [Tryz.ntmps22, List.size_toArray, List.length_cons, List.length_nil, Nat.reduceAdd, Nat.reduceSub, Array.replicate_succ, Array.replicate_zero, List.push_toArray, List.append_toArray, List.nil_append, List.cons_append]
  gi_wp2_with (refine ⟨trivial, ?_⟩; gi_at_call 50; refine (callsIn_wide.2 HCL.out).mono ?_; rintro e w1 ⟨rfl, rfl⟩)
  exact ⟨.tuple #[.slice Option.none 0 0, .int .i64 25], by simp [results, Tryz.results22, go_sem], rfl, Below.refl _ _⟩

set_option maxRecDepth 100000 in
set_option maxHeartbeats 4000000 in
theorem tgodd_many (pv : Value) (p : List Int) (m : Nat) (w : World) (hS : Std w) (hp : IsRow w w.heap.size pv p) (hpe : primeErr p = 0) (h2 : p[0]?.getD 0 = 2) (hm1 : 1 ≤ m) (hm : m ≤ 99)
    (hD : ∀ (lv : Value) (W : World), Std W → IsRow W W.heap.size pv p → IsRow W W.heap.size lv (oddZ (smTo p m)) → Calls Tryz.prog 28 #[pv, lv] W fun e w' => e = .returned (.tuple #[.slice Option.none 0 0, .int .i64 4]) ∧ Below W.heap.size W w') :
    Calls Tryz.prog 22 #[pv, .int .i64 m] w fun e w' => e = .returned (.tuple #[.slice Option.none 0 0, .int .i64 4]) ∧ Below w.heap.size w w' := by
  obtain ⟨i0, hi, hz0, hz1, hz2⟩ := info_parts Tryz.info_int
  have HCL := Lib.hid (checkLimit_ok pv p m w hp hpe hm1 hm)
  have HPL : Box (0 < p.length) := ⟨by
    rcases Nat.eq_zero_or_pos p.length with h | h
    · unfold primeErr at hpe
      rw [if_pos h] at hpe
      cases hpe
    · exact h⟩
  have hrow := hp
  obtain ⟨AP, cp, rfl, _, _, hpr⟩ := hp
  obtain ⟨ad, rfl, hadb, hc0⟩ := hpr.i_at (k := 0) HPL.out
  rw [h2, show ad.add 0 = ad by unfold Addr.add; simp] at hc0
  have hl0 : (0 : Int) < (p.length : Int) := by have := HPL.out; omega
  refine (callsIn_wide (n := 3)).1 ?_
  refine callsIn_of_wp_marks Tryz.func22 rfl trivial ?_ rfl
  simp only [Tryz.ntmps22, List.size_toArray, List.length_cons, List.length_nil, Nat.reduceAdd, Nat.reduceSub, Array.replicate_succ, Array.replicate_zero, List.push_toArray, List.append_toArray, List.nil_append, List.cons_append]
  gi_wp2_with (first | (refine ⟨trivial, ?_⟩; gi_at_call 50; refine (callsIn_wide.2 HCL.out).mono ?_; rintro e w1 ⟨rfl, rfl⟩) | (refine ⟨trivial, ?_⟩; gi_at_call 51; refine (smooth_in _ _ _ _ _ _).mono ?_; rintro e w' ⟨rfl, rfl⟩))
  have b0 := Cells.new w 24 #[.slice Option.none 0 0]
  have b1 := Cells.new (w.alloc (.cells #[.slice Option.none 0 0] 24)) 25 #[.slice (some ad) p.length cp]
  have b2 := Cells.new ((w.alloc (.cells #[.slice Option.none 0 0] 24)).alloc (.cells #[.slice (some ad) p.length cp] 25)) 3 #[.int .i64 (m : Int)]
  rw [World.size_alloc] at b1
  rw [World.size_alloc, World.size_alloc] at b2
  obtain ⟨W0, hW0⟩ : ∃ W0, W0 = ((w.alloc (.cells #[.slice Option.none 0 0] 24)).alloc (.cells #[.slice (some ad) p.length cp] 25)).alloc (.cells #[.int .i64 (m : Int)] 3) := ⟨_, rfl⟩
  have hB0 : Below w.heap.size w W0 := by rw [hW0]; exact (((Below.refl _ w).alloc (Nat.le_refl _) _).alloc (by simp) _).alloc (by simp; omega) _
  have hs0 : W0.heap.size = w.heap.size + 1 + 1 + 1 := by rw [hW0]; simp
  have c0 := (b0.alloc (.cells #[.slice (some ad) p.length cp] 25)).alloc (.cells #[.int .i64 (m : Int)] 3)
  have c1 := b1.alloc (.cells #[.int .i64 (m : Int)] 3)
  rw [← hW0] at c0 c1 b2 ⊢
  clear b0 b1 hW0
  refine wpIn_rangeFunc_ownG rfl (by omega) (gf := 85) (lb := #[.pointer (some ⟨w.heap.size + 1 + 1, 0, Option.none⟩), .pointer (some ⟨w.heap.size + 1, 0, Option.none⟩)]) rfl trivial (enters_of Tryz.func85 (by kernel_rfl) rfl)
    (smooth_stops _ (by omega) (w.heap.size + 1 + 1) (w.heap.size + 1) _ p m w W0 hm hS hB0 hrow hpe b2 c1) kpB2_t (kpB2_b (by omega) (by omega) (by omega)) (Below.refl _ _) (fun _ => rfl)
    (fun pre W => (∃ v, Cells W w.heap.size 24 [v] ∧ W.ownsRow (w.heap.size + 1 + 1 + 1) 3 1 v (oddT pre).length (is (oddT pre))) ∧ Below w.heap.size W0 W)
    (fun _ _ _ => False)
    (OwnFrom.and (Own.from (fun s A B row hs hg hr => by
      obtain ⟨v, k1, k2⟩ := hs
      refine ⟨v, cells_kept k1 hg hr, k2.kept hg ?_⟩
      by_cases hv : v.ownBlock = Option.none
      · exact .inl hv
      · right
        intro e
        obtain ⟨j, hj⟩ := Option.ne_none_iff_exists'.1 hv
        rw [hj] at e
        obtain ⟨o, ho, hc⟩ := hr j e.symm
        rw [own_cells k2 j o hj ho] at hc
        cases hc) _) (ownFrom_below (by omega) (by omega)))
    (fun _ _ _ _ _ hs _ _ => hs)
    ⟨⟨_, c0, World.ownsRow_nil _ _ _ _⟩, Below.refl _ _⟩
    (fun x : Smt => { tmps := #[Value.slice (some ad) p.length cp, Value.int .i64 (m : Int), undef, undef, Value.slice Option.none 0 0, Value.int .i64 0, Value.int .i64 0, Value.pointer (some { block := w.heap.size, off := 0 }), .int .i64 x.1.1, Value.slice (some ad) p.length cp, Value.int .i64 (m : Int), Value.int .i64 0, Value.int .i64 0, Value.bool false, undef, Value.slice (some ad) p.length cp, Value.pointer (some ad), Value.int .i64 2, Value.bool false, Value.slice (some ad) p.length cp, Value.int .i64 (m : Int), Value.func (Fn.func 85) #[] #[Value.pointer (some { block := w.heap.size + 1 + 1, off := 0 }), Value.pointer (some { block := w.heap.size + 1, off := 0 })], .int .i64 x.1.1, x.1.2, undef, undef, undef, undef, undef, undef, undef, undef, undef, undef, undef, undef], defers := [] }) ?assign ?body ?done ?stop
  case assign =>
    intro l x W K hK
    dsimp only [smtEnc] at *
    gi_wp2
    exact hK
  case body =>
    rintro l pre x W ⟨⟨v, k1, k2⟩, hB⟩ hpl
    have hsz : w.heap.size + 1 + 1 + 1 ≤ W.heap.size := by have := hB.size; omega
    have hcv := k1.cell 0
    simp at hcv
    have hol := oddT_len pre
    obtain ⟨hx0, hx9⟩ := x.2.1
    by_cases hodd : x.1.1 % 2 = 1
    · have HY := Lib.hid (oddT_yes pre x hodd)
      generalize hze : x.1.1 = z at *
      have HZE := Lib.hid hze
      have htm : z.tmod 2 = 1 := by rw [Int.tmod_eq_emod_of_nonneg hx0]; exact hodd
      clear hodd hze
      gi_wp2_with (gi_at_builtin; refine wpListIn_append_own _ rfl _ _ _ rfl (w.heap.size + 1 + 1 + 1) 3 i0 (.int .i64 0) 1 8 Tryz.underlying24 hi hz0 hz1 hz2 rfl (by decide) _ _ _ rfl (k2.alloc _) ⟨W.heap.size, 0, Option.none⟩ 1 1 [.int .i64 z] rfl rfl (cell_one_new _ _ _) (by simp [Value.oneCell']) (by unfold maxLen; omega) (by omega) (by simp; omega) ?_; intro v' w9 hown' hgrow _; obtain ⟨g', cap', rfl⟩ := ownsRow_succ hown'; have hc9 := ((k1.alloc (.cells #[.int .i64 z] 3)).grown hgrow (own_ne_cells (k2.alloc _) (k1.alloc (.cells #[.int .i64 z] 3)) (by decide))).cell 0; have hf9 := ((k1.alloc (.cells #[.int .i64 z] 3)).grown hgrow (own_ne_cells (k2.alloc _) (k1.alloc (.cells #[.int .i64 z] 3)) (by decide))).free 0; simp at hc9)
      have hal := k2.alloc (.cells #[.int .i64 z] 3)
      have k1a := k1.alloc (.cells #[.int .i64 z] 3)
      have hlow : ∀ j, v.ownBlock = some j → w.heap.size + 1 + 1 + 1 ≤ j := fun j hj => (hal.lt j hj).1
      have hBk : Below w.heap.size W (w9.setCell ⟨w.heap.size, 0, Option.none⟩ (.slice (some ⟨g', 0, Option.none⟩) ((oddT pre).length + 1) cap')) := (((Below.refl w.heap.size W).alloc (by omega) (.cells #[.int .i64 z] 3)).grown hgrow (by simp; omega) (fun j hj => by have := hlow j hj; omega)).setCell (p := ⟨w.heap.size, 0, Option.none⟩) (Nat.le_refl _) _
      refine ⟨?_, ⟨hBk, fun xs hc => ?_, fun xs hc => ?_⟩, ⟨.slice (some ⟨g', 0, Option.none⟩) ((oddT pre).length + 1) cap', ?_, ?_⟩, hB.trans hBk⟩
      · exact (((KeepsOthers.alloc W _).trans (KeepsOthers.of_grownBy hgrow (fun j o hj ho => own_cells hal j o hj ho))).trans (KeepsOthers.setCell _ _ _)).from _
      · exact ((hc.alloc _).grown hgrow (fun e => by have := hlow _ e.symm; omega)).far (by show w.heap.size + 1 + 1 ≠ w.heap.size; omega) _
      · exact ((hc.alloc _).grown hgrow (fun e => by have := hlow _ e.symm; omega)).far (by show w.heap.size + 1 ≠ w.heap.size; omega) _
      · exact (k1a.grown hgrow (own_ne_cells hal k1a (by decide))).set 0 _
      · rw [HY.out, List.length_append, is_append]
        exact ownsRow_setCell_below hown' (by show w.heap.size < w.heap.size + 1 + 1 + 1; omega) _
    · have HY := Lib.hid (oddT_no pre x hodd)
      have hr : x.1.1 % 2 = 0 := by omega
      generalize hze : x.1.1 = z at *
      have htm : z.tmod 2 = 0 := by rw [Int.tmod_eq_emod_of_nonneg hx0]; exact hr
      clear hodd hze
      gi_wp2
      exact ⟨KeepsFrom.refl _ _, KpB2.refl _ _ _ _ _ _, ⟨v, k1, by rw [HY.out]; exact k2⟩, hB⟩
  case done =>
    rintro D ys W hDD hys ⟨⟨v, k1, k2⟩, hB⟩ hKD
    have hcv := k1.cell 0
    simp at hcv
    have hBW := hB0.trans hB
    have hoz : oddT ys = oddZ (smTo p m) := by unfold oddT; rw [hys]
    rw [hoz] at k2
    have hlv : IsRow W W.heap.size v (oddZ (smTo p m)) := IsRow.of_own k2
    have HD := Lib.hid (hD v W (hS.below hBW (Nat.le_refl _)) (hrow.lift hBW) hlv)
    obtain ⟨Av, cv, rfl⟩ := hlv.shape
    clear k2 hlv
    gi_wp2
    refine ⟨trivial, ?_⟩
    refine (callsIn_wide.2 HD.out).mono ?_
    rintro e w4 ⟨rfl, hb4⟩
    gi_wp2
    have hK4 : w4.heap[D]? = some (.deferred (some [])) := (hb4.block D (Array.getElem?_eq_some_iff.1 hKD).1).trans hKD
    refine ⟨by simp, .inl ⟨_, _, rfl, run_takeDeferred hK4, ?_⟩⟩
    have hbW := hBW.trans (hb4.mono hBW.size)
    have hbp := belowK_b (w := w) (Nat.le_refl _) w4 D (.deferred (some [])) (.deferred Option.none) (by omega) hK4 rfl rfl
    exact ⟨.tuple #[.slice Option.none 0 0, .int .i64 4], by simp [results, Tryz.results22, go_sem], rfl, hbW.trans hbp⟩
  case stop =>
    rintro D c pre W _ _ h _
    exact h.elim

end Go.Proofs.YtcfkclafpbaagaaGreatDoor
