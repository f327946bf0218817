/- ScoreTransposes: frame. -/
import Derived.Test.YtaaeekahhhookaaGreatDoorArgsTr
import Derived.Test.YtaaeekahhhookaaGreatDoorArgPlTr
import Derived.Test.YtaaeekahhhookaaGreatDoorStart2Tr
namespace Go.Proofs.YtaaeekahhhookaaGreatDoor
open Go.ChangeShapes Go.WideShapes Go.ChangeAt Go.RowKit

set_option maxRecDepth 100000 in
theorem scTra_std {W : World} (h : laidMetH Tryz.prog Rows.scoreTransposesRow.laid W) : Std W := by
 have h2 : laidMetH Tryz.prog seatLaid2 W := h
 rw [MakeChecks.laidMetH_plain _ _ _ (by kernel_rfl)] at h2
 exact std_of_laid2 h2

/-- What the walk of ScoreTransposes gives. -/
def ScTraWalk : Prop := ∀ (n0 : Nat) (v0 : Value) (l0 : List (List Bt)) (v1 : Value) (x1 : List Int) (w : World), Std w → (∃ m, w.cell? ⟨0, 0, Option.none⟩ = some (.int .i64 m)) → n0 ≤ 255 → PlA w v0 l0 → IsRow w w.heap.size v1 x1 →
 Calls Tryz.prog 4 #[.agg #[.int .u8 n0, v0], v1] w fun e w' => e = .returned (.bool true) ∧ Below w.heap.size w w'

set_option maxRecDepth 100000 in
theorem scTra_contract (walk : ScTraWalk) (H : Type) (enc : TypeId × Value → H) (W : World) (base : Nat) (args : Array Value) (ds gs : List (DataW H)) (before : List MemPlace)
  (hval : ∀ (j : Nat) t v, Tryz.f4.params[j]? = some t → args[j]? = some v → Value.okWide Tryz.prog W .any base t v)
  (hW : DataW.Whole enc Tryz.prog Tryz.f4.params.toList Rows.scoreTransposesSpec.vars false W args.toList ds gs before) (hL : laidMetH Tryz.prog Rows.scoreTransposesRow.laid W) (hSh : W.ShapedOpen Tryz.prog) :
  Calls Tryz.prog 4 args W fun e W' => ∃ v, e = .returned v ∧ Rows.scoreTransposesSpec.post enc Tryz.prog Tryz.f4 false true false false W args v W' := by
 have hW' := hW
 obtain ⟨p, q, hA0, hV, rfl, hfz, hnd⟩ := hW
 have hA : DataW.TrodAll enc Tryz.prog W 0 (fun _ => true) true Tryz.f4.params.toList args.toList ds p := hA0
 rw [Tryz.params4] at hA hval
 obtain ⟨v0, vs0, d0, ds0, p0, q0, hargs, rfl, rfl, h0, r0⟩ := trodAll_cons hA
 obtain ⟨v1, vs1, d1, ds1, p1, q1, rfl, rfl, rfl, h1, r1⟩ := trodAll_cons r0
 obtain ⟨rfl, rfl, rfl⟩ := trodAll_nil r1
 obtain rfl : args = #[v0, v1] := by cases args; simp_all
 obtain ⟨rfl, rfl⟩ := trodVars_none hV
 have k0_ := h0
 have lt0 : ∀ x ∈ p0, x.block < W.heap.size := by obtain ⟨m, hm⟩ := k0_; exact DataW.trod_lt m _ _ _ hm
 have k1_ := h1
 have lt1 : ∀ x ∈ p1, x.block < W.heap.size := by obtain ⟨m, hm⟩ := k1_; exact DataW.trod_lt m _ _ _ hm
 obtain ⟨n0, pv0, l0, rfl, g0, f0⟩ := arg_plan48 (hval 0 39 v0 rfl rfl) h0
 obtain ⟨a1, len1, cap1, rfl⟩ := okWide_slice Tryz.underlying40 (hval 1 40 v1 rfl rfl)
 obtain ⟨x1, g1⟩ := arg_row Tryz.underlying40 h1
 clear hA0
 refine (walk n0 pv0 l0 _ x1 W (scTra_std hL) (len_of_shaped hSh) g0 f0 g1).mono fun e W' ⟨he, bel⟩ => ?_
 subst he
 exact ⟨_, rfl, _, _, _, [], _, [], hW', trodAll_mk1 (shut_bool Tryz.underlying4 _), (trodAll_cons_mk (Below.trod laidOut (by kernel_rfl) (of_decide_eq_true (by kernel_rfl)) k0_ bel lt0) (trodAll_cons_mk (Below.trod laidOut (by kernel_rfl) (of_decide_eq_true (by kernel_rfl)) k1_ bel lt1) trodAll_mk0)), rfl, bel.frame _, fun h => by cases h⟩

noncomputable def scTraWorld (os : Os) : World := World.laidAll Tryz.prog os seatLaid2
theorem scTra_met (os : Os) : laidMet Tryz.prog seatLaid2 ((scTraWorld os).forCall (fun _ _ => 0) ⟨#[], #[.agg #[.int .u8 0, .slice Option.none 0 0], .slice Option.none 0 0], []⟩).memory :=
 laidMet_laidAll _ (by kernel_rfl) (by kernel_rfl)
theorem scTra_reads (os : Os) {H : Type} (enc : TypeId × Value → H) : ∃ places, DataW.whole enc Tryz.prog ((scTraWorld os).forCall (fun _ _ => 0) ⟨#[], #[.agg #[.int .u8 0, .slice Option.none 0 0], .slice Option.none 0 0], []⟩).memory Tryz.f4.params.toList Rows.scoreTransposesSpec.vars false #[Value.agg #[.int .u8 0, .slice Option.none 0 0], .slice Option.none 0 0].toList 8 = some ([.agg [.lit (.int .u8 0), .nil], .nil], [], places) :=
 ⟨[], by kernel_rfl⟩

set_option maxRecDepth 100000 in
theorem scTra_lifted (walk : ScTraWalk) (os : Os) (started : os.Started) (H : Type) (enc : TypeId × Value → H) (F : Stop.Interp) :
  ReturnsInHanded {} Tryz.checked os 4 .any ((OpenSpec.ofChange Rows.scoreTransposesSpec).preRow enc Tryz.prog Tryz.f4 Rows.scoreTransposesRow.domain false Rows.scoreTransposesRow.laid) (((OpenSpec.ofChange Rows.scoreTransposesSpec).at F).post enc Tryz.prog Tryz.f4 false true false false) := by
 obtain ⟨places, hx⟩ := scTra_reads os enc
 refine returnsInHanded_of_row (C := Tryz.checked) (s := OpenSpec.ofChange Rows.scoreTransposesSpec) own started (by kernel_rfl) Tryz.func4
  (witness_row_at (enc := enc) (C := Tryz.checked) false (scTraWorld os) #[.agg #[.int .u8 0, .slice Option.none 0 0], .slice Option.none 0 0] (World.laidAll_os _ _ _) (by kernel_rfl) (by kernel_rfl) (by kernel_rfl)
    (OpenSpec.preRow_of_cond 8 hx (by kernel_rfl) (fun k hk => by cases hk) (by kernel_rfl) (scTra_met os))) ?_
 intro W base args ds gs before hval hW _ _ _ hL hSh _
 exact scTra_contract walk H enc W base args ds gs before hval hW hL hSh

end Go.Proofs.YtaaeekahhhookaaGreatDoor
