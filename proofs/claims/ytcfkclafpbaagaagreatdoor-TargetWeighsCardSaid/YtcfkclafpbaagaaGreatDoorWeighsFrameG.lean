/- TargetWeighs: frame. -/
import Derived.Test.YtcfkclafpbaagaaGreatDoorArgsG
import Derived.Test.YtcfkclafpbaagaaGreatDoorArgFoursG
namespace Go.Proofs.YtcfkclafpbaagaaGreatDoor
open Go.ChangeShapes Go.WideShapes Go.ChangeAt Go.RowKit

set_option maxRecDepth 100000 in
theorem weighs_std {W : World} (h : laidMetH Tryz.prog Rows.targetWeighsRow.laid W) : Std W := by
  have h2 : laidMetH Tryz.prog seatLaid W := h
  rw [MakeChecks.laidMetH_plain _ _ _ (by kernel_rfl)] at h2
  exact std_of_laid h2

/-- What the walk of TargetWeighs gives. -/
def WeighsWalk : Prop := ∀ (n0 : Nat) (v1 : Value) (l1 : List (List Int)) (k2 : Int) (w : World), Std w → n0 ≤ 255 → FoursArg w v1 l1 → -9223372036854775808 ≤ k2 → k2 ≤ 9223372036854775807 →
  Calls Tryz.prog 10 #[.int .u8 n0, v1, .int .i64 k2] w fun e w' => e = .returned (.bool true) ∧ Below w.heap.size w w'

set_option maxRecDepth 100000 in
theorem weighs_contract (walk : WeighsWalk) (H : Type) (enc : TypeId × Value → H) (W : World) (base : Nat) (args : Array Value) (ds gs : List (DataW H)) (before : List MemPlace)
    (hval : ∀ (j : Nat) t v, Tryz.f10.params[j]? = some t → args[j]? = some v → Value.okWide Tryz.prog W .any base t v)
    (hW : DataW.Whole enc Tryz.prog Tryz.f10.params.toList Rows.targetWeighsSpec.vars false W args.toList ds gs before) (hL : laidMetH Tryz.prog Rows.targetWeighsRow.laid W) :
    Calls Tryz.prog 10 args W fun e W' => ∃ v, e = .returned v ∧ Rows.targetWeighsSpec.post enc Tryz.prog Tryz.f10 false true false false W args v W' := by
  have hW' := hW
  obtain ⟨p, q, hA0, hV, rfl, hfz, hnd⟩ := hW
  have hA : DataW.TrodAll enc Tryz.prog W 0 (fun _ => true) true Tryz.f10.params.toList args.toList ds p := hA0
  rw [Tryz.params10] at hA hval
  obtain ⟨v0, vs0, d0, ds0, p0, q0, hargs, rfl, rfl, h0, r0⟩ := trodAll_cons hA
  obtain ⟨v1, vs1, d1, ds1, p1, q1, rfl, rfl, rfl, h1, r1⟩ := trodAll_cons r0
  obtain ⟨v2, vs2, d2, ds2, p2, q2, rfl, rfl, rfl, h2, r2⟩ := trodAll_cons r1
  obtain ⟨rfl, rfl, rfl⟩ := trodAll_nil r2
  obtain rfl : args = #[v0, v1, v2] := by cases args; simp_all
  obtain ⟨rfl, rfl⟩ := trodVars_none hV
  have k0_ := h0
  have lt0 : ∀ x ∈ p0, x.block < W.heap.size := by obtain ⟨m, hm⟩ := k0_; exact DataW.trod_lt m _ _ _ hm
  have k1_ := h1
  have lt1 : ∀ x ∈ p1, x.block < W.heap.size := by obtain ⟨m, hm⟩ := k1_; exact DataW.trod_lt m _ _ _ hm
  have k2_ := h2
  have lt2 : ∀ x ∈ p2, x.block < W.heap.size := by obtain ⟨m, hm⟩ := k2_; exact DataW.trod_lt m _ _ _ hm
  obtain ⟨n0, rfl, g0⟩ := arg_u8 (hval 0 5 v0 rfl rfl) h0
  obtain ⟨l1, g1⟩ := arg_fours (hval 1 22 v1 rfl rfl) h1
  obtain ⟨k2, rfl, g2, j2⟩ := arg_i64 (hval 2 3 v2 rfl rfl) h2
  clear hA0
  refine (walk n0 _ l1 k2 W (weighs_std hL) g0 g1 g2 j2).mono fun e W' ⟨he, bel⟩ => ?_
  subst he
  exact ⟨_, rfl, _, _, _, [], _, [], hW', trodAll_mk1 (shut_bool Tryz.underlying4 _), (trodAll_cons_mk (Below.trod laidOut (by kernel_rfl) (of_decide_eq_true (by kernel_rfl)) k0_ bel lt0) (trodAll_cons_mk (Below.trod laidOut (by kernel_rfl) (of_decide_eq_true (by kernel_rfl)) k1_ bel lt1) (trodAll_cons_mk (Below.trod laidOut (by kernel_rfl) (of_decide_eq_true (by kernel_rfl)) k2_ bel lt2) trodAll_mk0))), rfl, bel.frame _, fun h => by cases h⟩

noncomputable def weighsWorld (os : Os) : World := World.laidAll Tryz.prog os seatLaid
theorem weighs_met (os : Os) : laidMet Tryz.prog seatLaid ((weighsWorld os).forCall (fun _ _ => 0) ⟨#[], #[.int .u8 0, .slice Option.none 0 0, .int .i64 0], []⟩).memory :=
  laidMet_laidAll _ (by kernel_rfl) (by kernel_rfl)
theorem weighs_reads (os : Os) {H : Type} (enc : TypeId × Value → H) : ∃ places, DataW.whole enc Tryz.prog ((weighsWorld os).forCall (fun _ _ => 0) ⟨#[], #[.int .u8 0, .slice Option.none 0 0, .int .i64 0], []⟩).memory Tryz.f10.params.toList Rows.targetWeighsSpec.vars false #[Value.int .u8 0, .slice Option.none 0 0, .int .i64 0].toList 8 = some ([.lit (.int .u8 0), .nil, .lit (.int .i64 0)], [], places) :=
  ⟨[], by kernel_rfl⟩

set_option maxRecDepth 100000 in
theorem weighs_lifted (walk : WeighsWalk) (os : Os) (started : os.Started) (H : Type) (enc : TypeId × Value → H) (F : Stop.Interp) :
    ReturnsInHanded {} Tryz.checked os 10 .any ((OpenSpec.ofChange Rows.targetWeighsSpec).preRow enc Tryz.prog Tryz.f10 Rows.targetWeighsRow.domain false Rows.targetWeighsRow.laid) (((OpenSpec.ofChange Rows.targetWeighsSpec).at F).post enc Tryz.prog Tryz.f10 false true false false) := by
  obtain ⟨places, hx⟩ := weighs_reads os enc
  refine returnsInHanded_of_row (C := Tryz.checked) (s := OpenSpec.ofChange Rows.targetWeighsSpec) own started (by kernel_rfl) Tryz.func10
    (witness_row_at (enc := enc) (C := Tryz.checked) false (weighsWorld os) #[.int .u8 0, .slice Option.none 0 0, .int .i64 0] (World.laidAll_os _ _ _) (by kernel_rfl) (by kernel_rfl) (by kernel_rfl)
      (OpenSpec.preRow_of_cond 8 hx (by kernel_rfl) (fun k hk => by cases hk) (by kernel_rfl) (weighs_met os))) ?_
  intro W base args ds gs before hval hW _ _ _ hL _ _
  exact weighs_contract walk H enc W base args ds gs before hval hW hL

theorem weighs_said (walk : WeighsWalk) : Rows.TargetWeighsSaid :=
  OpenClaim.holds_of_cond 10 Tryz.f10 rfl rfl rfl rfl rfl rfl rfl ⟨rfl, rfl, rfl, rfl, rfl⟩ rfl rfl rfl rfl rfl (by kernel_rfl) Tryz.func10 (by kernel_rfl)
    (of_decide_eq_true (by kernel_rfl)) (by unfold Func.isWrapper; first | (rw [if_pos (by decide +kernel)]; kernel_rfl) | (rw [if_neg (by decide +kernel)]; exact ⟨rfl, rfl⟩))
    (fun os started H enc _ F => by rw [OpenClaim.pre_eq_preRow]; exact weighs_lifted walk os started H enc F)

end Go.Proofs.YtcfkclafpbaagaaGreatDoor
