/- target.Integer, Superparticular: the errors. -/
import Derived.Test.YtcfkclafpbaagaaGreatDoorGTN
import Derived.Test.YtcfkclafpbaagaaGreatDoorGTK
namespace Go.Proofs.YtcfkclafpbaagaaGreatDoor
open Go.RowKit Go.Lib Go.Shelf

/-- The error of a limit. -/
def limErr (p : List Int) (z : Int) : Int := if primeErr p ≠ 0 then primeErr p else if z < 1 ∨ 99 < z then 3 else 0

set_option maxHeartbeats 1000000 in
theorem checkLimit_any (pv : Value) (p : List Int) (z : Int) (w : World) (hp : IsRow w w.heap.size pv p) :
    Calls Tryz.prog 50 #[pv, .int .i64 z] w fun e w' => e = .returned (.int .i64 (limErr p z)) ∧ w = w' := by
  have HPC := Lib.hid (primeCheck_any pv p w.heap.size w hp)
  obtain ⟨AP, cp, rfl⟩ := hp.shape
  clear hp
  by_cases h0 : primeErr p = 0
  · by_cases h1 : z < 1
    · have hv : limErr p z = 3 := by unfold limErr; rw [if_neg (by simp [h0]), if_pos (.inl h1)]
      rw [hv]
      rw [h0] at HPC
      have d1 : decide (z < 1) = true := by rw [decide_eq_true_iff]; exact h1
      clear hv h0 h1
      go_enter Tryz.func50, Tryz.ntmps50
      go_wp2_with fail
      refine HPC.out.mono ?_
      rintro e w1 ⟨rfl, rfl⟩
      go_wp2_with fail
      go_ret
      exact ⟨rfl, rfl⟩
    · by_cases h2 : 99 < z
      · have hv : limErr p z = 3 := by unfold limErr; rw [if_neg (by simp [h0]), if_pos (.inr h2)]
        rw [hv]
        rw [h0] at HPC
        have d1 : decide (z < 1) = false := by rw [decide_eq_false_iff_not]; exact h1
        have d2 : decide (99 < z) = true := by rw [decide_eq_true_iff]; exact h2
        clear hv h0 h1 h2
        go_enter Tryz.func50, Tryz.ntmps50
        go_wp2_with fail
        refine HPC.out.mono ?_
        rintro e w1 ⟨rfl, rfl⟩
        go_wp2_with fail
        go_ret
        exact ⟨rfl, rfl⟩
      · have hv : limErr p z = 0 := by unfold limErr; rw [if_neg (by simp [h0]), if_neg (by omega)]
        rw [hv]
        rw [h0] at HPC
        have d1 : decide (z < 1) = false := by rw [decide_eq_false_iff_not]; exact h1
        have d2 : decide (99 < z) = false := by rw [decide_eq_false_iff_not]; exact h2
        clear hv h0 h1 h2
        go_enter Tryz.func50, Tryz.ntmps50
        go_wp2_with fail
        refine HPC.out.mono ?_
        rintro e w1 ⟨rfl, rfl⟩
        go_wp2_with fail
        go_ret
        exact ⟨rfl, rfl⟩
  · have hv : limErr p z = primeErr p := by unfold limErr; rw [if_pos h0]
    rw [hv]
    have hne : (primeErr p != 0) = true := by simp [h0]
    clear hv h0
    go_enter Tryz.func50, Tryz.ntmps50
    go_wp2_with fail
    refine HPC.out.mono ?_
    rintro e w1 ⟨rfl, rfl⟩
    go_wp2_with fail
    go_ret
    exact ⟨rfl, rfl⟩

attribute [local go_sem] Oper.semAt_some

set_option maxRecDepth 100000 in
set_option maxHeartbeats 4000000 in
theorem integer_err (pv : Value) (p : List Int) (z : Int) (w : World) (hp : IsRow w w.heap.size pv p) (hne : (limErr p z != 0) = true) :
    Calls Tryz.prog 23 #[pv, .int .i64 z] w fun e w' => e = .returned (.tuple #[.slice Option.none 0 0, .int .i64 (limErr p z)]) ∧ Below w.heap.size w w' := by
  have hba : Below w.heap.size w (w.alloc (.cells #[pv] 25)) := (Below.refl _ _).alloc (Nat.le_refl _) _
  have HCL := Lib.hid (checkLimit_any pv p z _ (hp.lift hba))
  obtain ⟨AP, cp, rfl⟩ := hp.shape
  clear hp
  generalize limErr p z = q at *
  refine (callsIn_wide (n := 3)).1 ?_
  refine callsIn_of_wp_marks Tryz.func23 rfl trivial ?_ rfl
  simp only [Tryz.ntmps23, List.size_toArray, List.length_cons, List.length_nil, Nat.reduceAdd, Nat.reduceSub, Array.replicate_succ, Array.replicate_zero, List.push_toArray, List.append_toArray, List.nil_append, List.cons_append]
  gi_wp2_with (refine ⟨trivial, ?_⟩; gi_at_call 50; refine (callsIn_wide.2 HCL.out).mono ?_; rintro e w1 ⟨rfl, rfl⟩)
  exact ⟨.tuple #[.slice Option.none 0 0, .int .i64 q], by simp [results, Tryz.results23, go_sem], rfl, hba⟩

set_option maxHeartbeats 1000000 in
theorem super_err (pv : Value) (p : List Int) (z q : Int) (w : World) (hp : IsRow w w.heap.size pv p) (hq : (q != 0) = true)
    (hI : ∀ W, Below w.heap.size w W → Calls Tryz.prog 23 #[pv, .int .i64 z] W fun e w' => e = .returned (.tuple #[.slice Option.none 0 0, .int .i64 q]) ∧ Below W.heap.size W w') :
    Calls Tryz.prog 34 #[pv, .int .i64 z] w fun e w' => e = .returned (.tuple #[.slice Option.none 0 0, .int .i64 q]) ∧ Below w.heap.size w w' := by
  have hba : Below w.heap.size w (w.alloc (.cells #[pv] 25)) := (Below.refl _ _).alloc (Nat.le_refl _) _
  have HI := Lib.hid (hI _ hba)
  have HBA := Lib.hid hba
  obtain ⟨AP, cp, rfl⟩ := hp.shape
  clear hp hI hba
  go_enter Tryz.func34, Tryz.ntmps34
  go_wp2_with fail
  refine HI.out.mono ?_
  rintro e w1 ⟨rfl, hb1⟩
  go_wp2_with fail
  go_ret2
  exact ⟨rfl, HBA.out.trans (hb1.mono HBA.out.size)⟩

set_option maxRecDepth 100000 in
set_option maxHeartbeats 4000000 in
theorem integer_many (pv : Value) (p : List Int) (m : Nat) (w : World) (hS : Std w) (hp : IsRow w w.heap.size pv p) (hpe : primeErr p = 0) (hm1 : 1 ≤ m) (hm : m ≤ 99)
    (hlen : 20 < (rowsM p m).length) :
    Calls Tryz.prog 23 #[pv, .int .i64 m] w fun e w' => e = .returned (.tuple #[.slice Option.none 0 0, .int .i64 4]) ∧ Below w.heap.size w w' := by
  obtain ⟨i0, hi, hz0, hz1, hz2⟩ := info_parts Tryz.info_row
  have hba : Below w.heap.size w (w.alloc (.cells #[pv] 25)) := (Below.refl _ _).alloc (Nat.le_refl _) _
  have HCL := Lib.hid (checkLimit_ok pv p m _ (hp.lift hba) hpe hm1 hm)
  have hrow := hp
  obtain ⟨AP, cp, rfl⟩ := hp.shape
  refine (callsIn_wide (n := 3)).1 ?_
  refine callsIn_of_wp_marks Tryz.func23 rfl trivial ?_ rfl
  simp only [Tryz.ntmps23, List.size_toArray, List.length_cons, List.length_nil, Nat.reduceAdd, Nat.reduceSub, Array.replicate_succ, Array.replicate_zero, List.push_toArray, List.append_toArray, List.nil_append, List.cons_append]
  gi_wp2_with (first | (refine ⟨trivial, ?_⟩; gi_at_call 50; refine (callsIn_wide.2 HCL.out).mono ?_; rintro e w1 ⟨rfl, rfl⟩) | (refine ⟨trivial, ?_⟩; gi_at_call 51; refine (smooth_in _ _ _ _ _ _).mono ?_; rintro e w' ⟨rfl, rfl⟩))
  have b0 := Cells.new w 25 #[.slice AP p.length cp]
  have b1 := Cells.new (w.alloc (.cells #[.slice AP p.length cp] 25)) 27 #[.slice Option.none 0 0]
  have b2 := Cells.new ((w.alloc (.cells #[.slice AP p.length cp] 25)).alloc (.cells #[.slice Option.none 0 0] 27)) 25 #[.slice AP p.length cp]
  have b3 := Cells.new (((w.alloc (.cells #[.slice AP p.length cp] 25)).alloc (.cells #[.slice Option.none 0 0] 27)).alloc (.cells #[.slice AP p.length cp] 25)) 3 #[.int .i64 (m : Int)]
  rw [World.size_alloc] at b1
  rw [World.size_alloc, World.size_alloc] at b2
  rw [World.size_alloc, World.size_alloc, World.size_alloc] at b3
  obtain ⟨W0, hW0⟩ : ∃ W0, W0 = (((w.alloc (.cells #[.slice AP p.length cp] 25)).alloc (.cells #[.slice Option.none 0 0] 27)).alloc (.cells #[.slice AP p.length cp] 25)).alloc (.cells #[.int .i64 (m : Int)] 3) := ⟨_, rfl⟩
  have hB0 : Below w.heap.size w W0 := by rw [hW0]; exact ((((Below.refl _ w).alloc (Nat.le_refl _) _).alloc (by simp) _).alloc (by simp; omega) _).alloc (by simp; omega) _
  have hs0 : W0.heap.size = w.heap.size + 1 + 1 + 1 + 1 := by rw [hW0]; simp
  have c0 := ((b0.alloc (.cells #[.slice Option.none 0 0] 27)).alloc (.cells #[.slice AP p.length cp] 25)).alloc (.cells #[.int .i64 (m : Int)] 3)
  have c1 := (b1.alloc (.cells #[.slice AP p.length cp] 25)).alloc (.cells #[.int .i64 (m : Int)] 3)
  have c2 := b2.alloc (.cells #[.int .i64 (m : Int)] 3)
  rw [← hW0] at c0 c1 c2 b3 ⊢
  clear b0 b1 b2 hW0
  refine wpIn_rangeX rfl (by omega) (gf := 85) (lb := #[.pointer (some ⟨w.heap.size + 1 + 1 + 1, 0, Option.none⟩), .pointer (some ⟨w.heap.size + 1 + 1, 0, Option.none⟩)]) rfl trivial (enters_of Tryz.func85 (by kernel_rfl) rfl)
    (smooth_X _ (by omega) (w.heap.size + 1 + 1 + 1) (w.heap.size + 1 + 1) _ p m w W0 hm hS hB0 hrow hpe b3 c2) kpB2_t (kpB2_b (by omega) (by omega) (by omega)) (fun x W l o o' hl ho h => orow_put hl ho h) (Below.refl _ _) (fun _ => rfl)
    (InI p w.heap.size (.slice AP p.length cp) W0) ?hI ⟨⟨⟨_, c1, LRow.nil _ _⟩, c0⟩, Below.refl _ _⟩
    (fun x : Smt => { tmps := #[.slice AP p.length cp, .int .i64 (m : Int), .pointer (some ⟨w.heap.size, 0, Option.none⟩), undef, .slice Option.none 0 0, .int .i64 0, .int .i64 0, .pointer (some ⟨w.heap.size + 1, 0, Option.none⟩), undef, x.1.2, undef, undef, .slice AP p.length cp, .int .i64 (m : Int), .int .i64 0, .int .i64 0, .bool false, undef, .slice AP p.length cp, .int .i64 (m : Int), .func (.func 85) #[] #[.pointer (some ⟨w.heap.size + 1 + 1 + 1, 0, Option.none⟩), .pointer (some ⟨w.heap.size + 1 + 1, 0, Option.none⟩)], .int .i64 x.1.1, x.1.2, undef, undef, undef, undef, undef, undef, undef, undef, undef, undef, undef, undef, undef, undef, undef, undef, undef, undef, undef, undef, undef], defers := [] }) ?assign ?body ?done
  case hI =>
    exact OwnFrom.and (Own.from (fun s A B row hs hg hr => by
      obtain ⟨⟨v, k1, k2⟩, k0⟩ := hs
      exact ⟨⟨v, cells_kept k1 hg hr, lrow_keptG k2 hg hr⟩, cells_kept k0 hg hr⟩) _) (ownFrom_below (by omega) (by omega))
  case assign =>
    intro l x W K hK
    dsimp only [smtEnc] at *
    gi_wp2
    exact hK
  case body =>
    rintro l pre x W ⟨⟨⟨v, k1, k2⟩, k0⟩, hB⟩ hX hpl
    have hsz : w.heap.size + 1 + 1 + 1 + 1 ≤ W.heap.size := by have := hB.size; omega
    have hcv := k1.cell 0
    simp at hcv
    obtain ⟨vs, hown, hvs⟩ := k2
    have hln := rowsT_len p pre
    have HN := Lib.hid (rowsT_next p pre x)
    obtain ⟨AX, nX, cX, hx2⟩ := x.2.2
    rw [hx2] at hX ⊢
    have HX := Lib.hid hX
    have HVS := Lib.hid hvs
    clear hX hvs
    have h100 : (rowsT p pre).length ≤ 200 := by omega
    clear hln
    generalize rowsT p pre = R1 at *
    gi_wp2_with (gi_at_builtin; refine wpListIn_append_own _ rfl _ _ _ rfl (w.heap.size + 1 + 1 + 1 + 1) 28 i0 (.slice Option.none 0 0) 1 24 Tryz.underlying27 hi hz0 hz1 hz2 rfl (by decide) _ _ _ rfl (hown.alloc _) ⟨W.heap.size, 0, Option.none⟩ 1 1 [.slice AX nX cX] rfl rfl (cell_one_new _ _ _) (by simp [Value.oneCell']) (by unfold maxLen; omega) (by omega) (by simp; omega) ?_; intro v' w9 hown' hgrow _; obtain ⟨g', cap', rfl⟩ := ownsRow_succ hown'; have hc9 := ((k1.alloc (.cells #[.slice AX nX cX] 28)).grown hgrow (own_ne_cells (hown.alloc _) (k1.alloc (.cells #[.slice AX nX cX] 28)) (by decide))).cell 0; have hf9 := ((k1.alloc (.cells #[.slice AX nX cX] 28)).grown hgrow (own_ne_cells (hown.alloc _) (k1.alloc (.cells #[.slice AX nX cX] 28)) (by decide))).free 0; simp at hc9)
    have hal := hown.alloc (.cells #[.slice AX nX cX] 28)
    have k1a := k1.alloc (.cells #[.slice AX nX cX] 28)
    have hlow : ∀ j, v.ownBlock = some j → w.heap.size + 1 + 1 + 1 + 1 ≤ j := fun j hj => (hal.lt j hj).1
    have hBk : Below w.heap.size W (w9.setCell ⟨w.heap.size + 1, 0, Option.none⟩ (.slice (some ⟨g', 0, Option.none⟩) (R1.length + 1) cap')) := (((Below.refl w.heap.size W).alloc (by omega) (.cells #[.slice AX nX cX] 28)).grown hgrow (by simp; omega) (fun j hj => by have := hlow j hj; omega)).setCell (p := ⟨w.heap.size + 1, 0, Option.none⟩) (by show w.heap.size ≤ w.heap.size + 1; omega) _
    have k1b := k1a.grown hgrow (own_ne_cells hal k1a (by decide))
    refine ⟨?_, ⟨hBk, fun xs hc => ?_, fun xs hc => ?_⟩, ⟨⟨⟨.slice (some ⟨g', 0, Option.none⟩) (R1.length + 1) cap', ?_, ?_⟩, ?_⟩, hB.trans hBk⟩⟩
    · exact (((KeepsOthers.alloc W _).trans (KeepsOthers.of_grownBy hgrow (fun j o hj ho => own_cells hal j o hj ho))).trans (KeepsOthers.setCell _ _ _)).from _
    · exact ((hc.alloc _).grown hgrow (fun e => by have := hlow _ e.symm; omega)).far (by show w.heap.size + 1 + 1 + 1 ≠ w.heap.size + 1; omega) _
    · exact ((hc.alloc _).grown hgrow (fun e => by have := hlow _ e.symm; omega)).far (by show w.heap.size + 1 + 1 ≠ w.heap.size + 1; omega) _
    · exact k1b.set 0 _
    · rw [HN.out]
      exact lrow_set (LRow.snoc hal (fun j z hz => by obtain ⟨u, h5, h6⟩ := HVS.out j z hz; exact ⟨u, h5, h6.alloc _⟩) (HX.out.alloc _) hown' hgrow) (by omega) k1b (by decide)
    · exact ((k0.alloc _).grown hgrow (fun e => by have := hlow _ e.symm; omega)).far (by show w.heap.size ≠ w.heap.size + 1; omega) _
  case done =>
    rintro D ys W hDD hys ⟨⟨⟨v, k1, k2⟩, k0⟩, hB⟩ hKD
    have hcv := k1.cell 0
    simp at hcv
    have hBW := hB0.trans hB
    rw [rowsT_eq hys] at k2
    obtain ⟨Av, cv, rfl⟩ := k2.shape
    have d20 : decide ((20 : Int) < ((rowsM p m).length : Int)) = true := by rw [decide_eq_true_iff]; omega
    clear k2 hlen k0
    gi_wp2
    have hK5 : W.heap[D]? = some (.deferred (some [])) := hKD
    refine ⟨by simp, .inl ⟨_, _, rfl, run_takeDeferred hK5, ?_⟩⟩
    have hbp := belowK_b (w := w) (Nat.le_refl _) W D (.deferred (some [])) (.deferred Option.none) (by omega) hK5 rfl rfl
    exact ⟨.tuple #[.slice Option.none 0 0, .int .i64 4], by simp [results, Tryz.results23, go_sem], rfl, hBW.trans hbp⟩

end Go.Proofs.YtcfkclafpbaagaaGreatDoor
