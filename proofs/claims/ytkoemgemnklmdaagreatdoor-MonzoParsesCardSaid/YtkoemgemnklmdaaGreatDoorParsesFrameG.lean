/- MonzoParses: frame. -/
import Derived.Test.YtkoemgemnklmdaaGreatDoorArgsG
import Derived.Test.YtkoemgemnklmdaaGreatDoorStart2G
namespace Go.Proofs.YtkoemgemnklmdaaGreatDoor
open Go.ChangeShapes Go.WideShapes Go.ChangeAt Go.RowKit

set_option maxRecDepth 100000 in
theorem parses_std {W : World} (h : laidMetH Tryz.prog Rows.monzoParsesRow.laid W) : Std W := by
  have h2 : laidMetH Tryz.prog seatLaid2 W := h
  rw [MakeChecks.laidMetH_plain _ _ _ (by kernel_rfl)] at h2
  exact std_of_laid2 h2

/-- What the walk of MonzoParses gives. -/
def ParsesWalk : Prop := ∀ (n0 : Nat) (a0 b0 c0 d0 : Int) (w : World), Std w → (∃ m, w.cell? ⟨2, 0, Option.none⟩ = some (.int .i64 m)) → n0 ≤ 255 → Four [a0, b0, c0, d0] →
  Calls Tryz.prog 12 #[.agg #[.int .u8 n0, .int .i8 a0, .int .i8 b0, .int .i8 c0, .int .i8 d0]] w fun e w' => e = .returned (.bool true) ∧ Below w.heap.size w w'

set_option maxRecDepth 100000 in
theorem parses_contract (walk : ParsesWalk) (H : Type) (enc : TypeId × Value → H) (W : World) (base : Nat) (args : Array Value) (ds gs : List (DataW H)) (before : List MemPlace)
    (hval : ∀ (j : Nat) t v, Tryz.f12.params[j]? = some t → args[j]? = some v → Value.okWide Tryz.prog W .any base t v)
    (hW : DataW.Whole enc Tryz.prog Tryz.f12.params.toList Rows.monzoParsesSpec.vars false W args.toList ds gs before) (hL : laidMetH Tryz.prog Rows.monzoParsesRow.laid W) (hSh : W.ShapedOpen Tryz.prog) :
    Calls Tryz.prog 12 args W fun e W' => ∃ v, e = .returned v ∧ Rows.monzoParsesSpec.post enc Tryz.prog Tryz.f12 false true false false W args v W' := by
  have hW' := hW
  obtain ⟨p, q, hA0, hV, rfl, hfz, hnd⟩ := hW
  have hA : DataW.TrodAll enc Tryz.prog W 0 (fun _ => true) true Tryz.f12.params.toList args.toList ds p := hA0
  rw [Tryz.params12] at hA hval
  obtain ⟨v0, vs0, d0, ds0, p0, q0, hargs, rfl, rfl, h0, r0⟩ := trodAll_cons hA
  obtain ⟨rfl, rfl, rfl⟩ := trodAll_nil r0
  obtain rfl : args = #[v0] := by cases args; simp_all
  obtain ⟨rfl, rfl⟩ := trodVars_none hV
  have k0_ := h0
  have lt0 : ∀ x ∈ p0, x.block < W.heap.size := by obtain ⟨m, hm⟩ := k0_; exact DataW.trod_lt m _ _ _ hm
  obtain ⟨n0, a0, b0, c0, d0, rfl, g0, f0⟩ := arg_plan (hval 0 50 v0 rfl rfl) h0
  clear hA0
  refine (walk n0 a0 b0 c0 d0 W (parses_std hL) (len_of_shaped hSh) g0 f0).mono fun e W' ⟨he, bel⟩ => ?_
  subst he
  exact ⟨_, rfl, _, _, _, [], _, [], hW', trodAll_mk1 (shut_bool Tryz.underlying4 _), (trodAll_cons_mk (Below.trod laidOut (by kernel_rfl) (of_decide_eq_true (by kernel_rfl)) k0_ bel lt0) trodAll_mk0), rfl, bel.frame _, fun h => by cases h⟩

noncomputable def parsesWorld (os : Os) : World := World.laidAll Tryz.prog os seatLaid2
theorem parses_met (os : Os) : laidMet Tryz.prog seatLaid2 ((parsesWorld os).forCall (fun _ _ => 0) ⟨#[], #[.agg #[.int .u8 0, .int .i8 0, .int .i8 0, .int .i8 0, .int .i8 0]], []⟩).memory :=
  laidMet_laidAll _ (by kernel_rfl) (by kernel_rfl)
theorem parses_reads (os : Os) {H : Type} (enc : TypeId × Value → H) : ∃ places, DataW.whole enc Tryz.prog ((parsesWorld os).forCall (fun _ _ => 0) ⟨#[], #[.agg #[.int .u8 0, .int .i8 0, .int .i8 0, .int .i8 0, .int .i8 0]], []⟩).memory Tryz.f12.params.toList Rows.monzoParsesSpec.vars false #[Value.agg #[.int .u8 0, .int .i8 0, .int .i8 0, .int .i8 0, .int .i8 0]].toList 8 = some ([.agg [.lit (.int .u8 0), .agg [.lit (.int .i8 0), .lit (.int .i8 0), .lit (.int .i8 0), .lit (.int .i8 0)]]], [], places) :=
  ⟨[], by kernel_rfl⟩

set_option maxRecDepth 100000 in
theorem parses_lifted (walk : ParsesWalk) (os : Os) (started : os.Started) (H : Type) (enc : TypeId × Value → H) (F : Stop.Interp) :
    ReturnsInHanded {} Tryz.checked os 12 .any ((OpenSpec.ofChange Rows.monzoParsesSpec).preRow enc Tryz.prog Tryz.f12 Rows.monzoParsesRow.domain false Rows.monzoParsesRow.laid) (((OpenSpec.ofChange Rows.monzoParsesSpec).at F).post enc Tryz.prog Tryz.f12 false true false false) := by
  obtain ⟨places, hx⟩ := parses_reads os enc
  refine returnsInHanded_of_row (C := Tryz.checked) (s := OpenSpec.ofChange Rows.monzoParsesSpec) own started (by kernel_rfl) Tryz.func12
    (witness_row_at (enc := enc) (C := Tryz.checked) false (parsesWorld os) #[.agg #[.int .u8 0, .int .i8 0, .int .i8 0, .int .i8 0, .int .i8 0]] (World.laidAll_os _ _ _) (by kernel_rfl) (by kernel_rfl) (by kernel_rfl)
      (OpenSpec.preRow_of_cond 8 hx (by kernel_rfl) (fun k hk => by cases hk) (by kernel_rfl) (parses_met os))) ?_
  intro W base args ds gs before hval hW _ _ _ hL hSh _
  exact parses_contract walk H enc W base args ds gs before hval hW hL hSh

theorem parses_said (walk : ParsesWalk) : Rows.MonzoParsesSaid :=
  OpenClaim.holds_of_cond 12 Tryz.f12 rfl rfl rfl rfl rfl rfl rfl ⟨rfl, rfl, rfl, rfl, rfl⟩ rfl rfl rfl rfl rfl (by kernel_rfl) Tryz.func12 (by kernel_rfl)
    (of_decide_eq_true (by kernel_rfl)) (by unfold Func.isWrapper; first | (rw [if_pos (by decide +kernel)]; kernel_rfl) | (rw [if_neg (by decide +kernel)]; exact ⟨rfl, rfl⟩))
    (fun os started H enc _ F => by rw [OpenClaim.pre_eq_preRow]; exact parses_lifted walk os started H enc F)

end Go.Proofs.YtkoemgemnklmdaaGreatDoor
