/- MonzoLong: frame. -/
import Derived.Test.YtkoemgemnklmdaaGreatDoorArgsG
namespace Go.Proofs.YtkoemgemnklmdaaGreatDoor
open Go.ChangeShapes Go.WideShapes Go.ChangeAt Go.RowKit

set_option maxRecDepth 100000 in
theorem long_std {W : World} (h : laidMetH Tryz.prog Rows.monzoLongRow.laid W) : Std W := by
  have h2 : laidMetH Tryz.prog seatLaid W := h
  rw [MakeChecks.laidMetH_plain _ _ _ (by kernel_rfl)] at h2
  exact std_of_laid h2

/-- What the walk of MonzoLong gives. -/
def LongWalk : Prop := ∀ (k0 : Int) (w : World), Std w → -32768 ≤ k0 → k0 ≤ 32767 →
  Calls Tryz.prog 6 #[.int .i16 k0] w fun e w' => e = .returned (.bool true) ∧ Below w.heap.size w w'

set_option maxRecDepth 100000 in
theorem long_contract (walk : LongWalk) (H : Type) (enc : TypeId × Value → H) (W : World) (base : Nat) (args : Array Value) (ds gs : List (DataW H)) (before : List MemPlace)
    (hval : ∀ (j : Nat) t v, Tryz.f6.params[j]? = some t → args[j]? = some v → Value.okWide Tryz.prog W .any base t v)
    (hW : DataW.Whole enc Tryz.prog Tryz.f6.params.toList Rows.monzoLongSpec.vars false W args.toList ds gs before) (hL : laidMetH Tryz.prog Rows.monzoLongRow.laid W) :
    Calls Tryz.prog 6 args W fun e W' => ∃ v, e = .returned v ∧ Rows.monzoLongSpec.post enc Tryz.prog Tryz.f6 false true false false W args v W' := by
  have hW' := hW
  obtain ⟨p, q, hA0, hV, rfl, hfz, hnd⟩ := hW
  have hA : DataW.TrodAll enc Tryz.prog W 0 (fun _ => true) true Tryz.f6.params.toList args.toList ds p := hA0
  rw [Tryz.params6] at hA hval
  obtain ⟨v0, vs0, d0, ds0, p0, q0, hargs, rfl, rfl, h0, r0⟩ := trodAll_cons hA
  obtain ⟨rfl, rfl, rfl⟩ := trodAll_nil r0
  obtain rfl : args = #[v0] := by cases args; simp_all
  obtain ⟨rfl, rfl⟩ := trodVars_none hV
  have k0_ := h0
  have lt0 : ∀ x ∈ p0, x.block < W.heap.size := by obtain ⟨m, hm⟩ := k0_; exact DataW.trod_lt m _ _ _ hm
  obtain ⟨k0, rfl, g0, j0⟩ := arg_i16 (hval 0 59 v0 rfl rfl) h0
  clear hA0
  refine (walk k0 W (long_std hL) g0 j0).mono fun e W' ⟨he, bel⟩ => ?_
  subst he
  exact ⟨_, rfl, _, _, _, [], _, [], hW', trodAll_mk1 (shut_bool Tryz.underlying4 _), (trodAll_cons_mk (Below.trod laidOut (by kernel_rfl) (of_decide_eq_true (by kernel_rfl)) k0_ bel lt0) trodAll_mk0), rfl, bel.frame _, fun h => by cases h⟩

noncomputable def longWorld (os : Os) : World := World.laidAll Tryz.prog os seatLaid
theorem long_met (os : Os) : laidMet Tryz.prog seatLaid ((longWorld os).forCall (fun _ _ => 0) ⟨#[], #[.int .i16 0], []⟩).memory :=
  laidMet_laidAll _ (by kernel_rfl) (by kernel_rfl)
theorem long_reads (os : Os) {H : Type} (enc : TypeId × Value → H) : ∃ places, DataW.whole enc Tryz.prog ((longWorld os).forCall (fun _ _ => 0) ⟨#[], #[.int .i16 0], []⟩).memory Tryz.f6.params.toList Rows.monzoLongSpec.vars false #[Value.int .i16 0].toList 8 = some ([.lit (.int .i16 0)], [], places) :=
  ⟨[], by kernel_rfl⟩

set_option maxRecDepth 100000 in
theorem long_lifted (walk : LongWalk) (os : Os) (started : os.Started) (H : Type) (enc : TypeId × Value → H) (F : Stop.Interp) :
    ReturnsInHanded {} Tryz.checked os 6 .any ((OpenSpec.ofChange Rows.monzoLongSpec).preRow enc Tryz.prog Tryz.f6 Rows.monzoLongRow.domain false Rows.monzoLongRow.laid) (((OpenSpec.ofChange Rows.monzoLongSpec).at F).post enc Tryz.prog Tryz.f6 false true false false) := by
  obtain ⟨places, hx⟩ := long_reads os enc
  refine returnsInHanded_of_row (C := Tryz.checked) (s := OpenSpec.ofChange Rows.monzoLongSpec) own started (by kernel_rfl) Tryz.func6
    (witness_row_at (enc := enc) (C := Tryz.checked) false (longWorld os) #[.int .i16 0] (World.laidAll_os _ _ _) (by kernel_rfl) (by kernel_rfl) (by kernel_rfl)
      (OpenSpec.preRow_of_cond 8 hx (by kernel_rfl) (fun k hk => by cases hk) (by kernel_rfl) (long_met os))) ?_
  intro W base args ds gs before hval hW _ _ _ hL _ _
  exact long_contract walk H enc W base args ds gs before hval hW hL

theorem long_said (walk : LongWalk) : Rows.MonzoLongSaid :=
  OpenClaim.holds_of_cond 6 Tryz.f6 rfl rfl rfl rfl rfl rfl rfl ⟨rfl, rfl, rfl, rfl, rfl⟩ rfl rfl rfl rfl rfl (by kernel_rfl) Tryz.func6 (by kernel_rfl)
    (of_decide_eq_true (by kernel_rfl)) (by unfold Func.isWrapper; first | (rw [if_pos (by decide +kernel)]; kernel_rfl) | (rw [if_neg (by decide +kernel)]; exact ⟨rfl, rfl⟩))
    (fun os started H enc _ F => by rw [OpenClaim.pre_eq_preRow]; exact long_lifted walk os started H enc F)

end Go.Proofs.YtkoemgemnklmdaaGreatDoor
