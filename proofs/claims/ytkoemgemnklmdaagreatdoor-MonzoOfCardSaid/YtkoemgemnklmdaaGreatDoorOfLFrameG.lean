/- MonzoOf: frame. -/
import Derived.Test.YtkoemgemnklmdaaGreatDoorArgsG
namespace Go.Proofs.YtkoemgemnklmdaaGreatDoor
open Go.ChangeShapes Go.WideShapes Go.ChangeAt Go.RowKit

set_option maxRecDepth 100000 in
theorem ofL_std {W : World} (h : laidMetH Tryz.prog Rows.monzoOfRow.laid W) : Std W := by
  have h2 : laidMetH Tryz.prog seatLaid W := h
  rw [MakeChecks.laidMetH_plain _ _ _ (by kernel_rfl)] at h2
  exact std_of_laid h2

/-- What the walk of MonzoOf gives. -/
def OfLWalk : Prop := ∀ (n0 : Nat) (s1 t1 : List UInt8) (w : World), Std w → n0 ≤ 255 → s1.length ≤ maxLen → t1.length ≤ maxLen →
  Calls Tryz.prog 4 #[.int .u8 n0, .agg #[.string ⟨s1.toArray⟩, .string ⟨t1.toArray⟩]] w fun e w' => e = .returned (.bool true) ∧ Below w.heap.size w w'

set_option maxRecDepth 100000 in
theorem ofL_contract (walk : OfLWalk) (H : Type) (enc : TypeId × Value → H) (W : World) (base : Nat) (args : Array Value) (ds gs : List (DataW H)) (before : List MemPlace)
    (hval : ∀ (j : Nat) t v, Tryz.f4.params[j]? = some t → args[j]? = some v → Value.okWide Tryz.prog W .any base t v)
    (hW : DataW.Whole enc Tryz.prog Tryz.f4.params.toList Rows.monzoOfSpec.vars false W args.toList ds gs before) (hL : laidMetH Tryz.prog Rows.monzoOfRow.laid W) :
    Calls Tryz.prog 4 args W fun e W' => ∃ v, e = .returned v ∧ Rows.monzoOfSpec.post enc Tryz.prog Tryz.f4 false true false false W args v W' := by
  have hW' := hW
  obtain ⟨p, q, hA0, hV, rfl, hfz, hnd⟩ := hW
  have hA : DataW.TrodAll enc Tryz.prog W 0 (fun _ => true) true Tryz.f4.params.toList args.toList ds p := hA0
  rw [Tryz.params4] at hA hval
  obtain ⟨v0, vs0, d0, ds0, p0, q0, hargs, rfl, rfl, h0, r0⟩ := trodAll_cons hA
  obtain ⟨v1, vs1, d1, ds1, p1, q1, rfl, rfl, rfl, h1, r1⟩ := trodAll_cons r0
  obtain ⟨rfl, rfl, rfl⟩ := trodAll_nil r1
  obtain rfl : args = #[v0, v1] := by cases args; simp_all
  obtain ⟨rfl, rfl⟩ := trodVars_none hV
  have k0_ := h0
  have lt0 : ∀ x ∈ p0, x.block < W.heap.size := by obtain ⟨m, hm⟩ := k0_; exact DataW.trod_lt m _ _ _ hm
  have k1_ := h1
  have lt1 : ∀ x ∈ p1, x.block < W.heap.size := by obtain ⟨m, hm⟩ := k1_; exact DataW.trod_lt m _ _ _ hm
  obtain ⟨n0, rfl, g0⟩ := arg_u8 (hval 0 5 v0 rfl rfl) h0
  obtain ⟨s1, t1, rfl, g1, f1⟩ := arg_rat (hval 1 38 v1 rfl rfl) h1
  clear hA0
  refine (walk n0 s1 t1 W (ofL_std hL) g0 g1 f1).mono fun e W' ⟨he, bel⟩ => ?_
  subst he
  exact ⟨_, rfl, _, _, _, [], _, [], hW', trodAll_mk1 (shut_bool Tryz.underlying4 _), (trodAll_cons_mk (Below.trod laidOut (by kernel_rfl) (of_decide_eq_true (by kernel_rfl)) k0_ bel lt0) (trodAll_cons_mk (Below.trod laidOut (by kernel_rfl) (of_decide_eq_true (by kernel_rfl)) k1_ bel lt1) trodAll_mk0)), rfl, bel.frame _, fun h => by cases h⟩

noncomputable def ofLWorld (os : Os) : World := World.laidAll Tryz.prog os seatLaid
theorem ofL_met (os : Os) : laidMet Tryz.prog seatLaid ((ofLWorld os).forCall (fun _ _ => 0) ⟨#[], #[.int .u8 0, .agg #[.string ⟨#[]⟩, .string ⟨#[]⟩]], []⟩).memory :=
  laidMet_laidAll _ (by kernel_rfl) (by kernel_rfl)
theorem ofL_reads (os : Os) {H : Type} (enc : TypeId × Value → H) : ∃ places, DataW.whole enc Tryz.prog ((ofLWorld os).forCall (fun _ _ => 0) ⟨#[], #[.int .u8 0, .agg #[.string ⟨#[]⟩, .string ⟨#[]⟩]], []⟩).memory Tryz.f4.params.toList Rows.monzoOfSpec.vars false #[Value.int .u8 0, .agg #[.string ⟨#[]⟩, .string ⟨#[]⟩]].toList 8 = some ([.lit (.int .u8 0), .agg [.lit (.string []), .lit (.string [])]], [], places) :=
  ⟨[], by kernel_rfl⟩

set_option maxRecDepth 100000 in
theorem ofL_lifted (walk : OfLWalk) (os : Os) (started : os.Started) (H : Type) (enc : TypeId × Value → H) (F : Stop.Interp) :
    ReturnsInHanded {} Tryz.checked os 4 .any ((OpenSpec.ofChange Rows.monzoOfSpec).preRow enc Tryz.prog Tryz.f4 Rows.monzoOfRow.domain false Rows.monzoOfRow.laid) (((OpenSpec.ofChange Rows.monzoOfSpec).at F).post enc Tryz.prog Tryz.f4 false true false false) := by
  obtain ⟨places, hx⟩ := ofL_reads os enc
  refine returnsInHanded_of_row (C := Tryz.checked) (s := OpenSpec.ofChange Rows.monzoOfSpec) own started (by kernel_rfl) Tryz.func4
    (witness_row_at (enc := enc) (C := Tryz.checked) false (ofLWorld os) #[.int .u8 0, .agg #[.string ⟨#[]⟩, .string ⟨#[]⟩]] (World.laidAll_os _ _ _) (by kernel_rfl) (by kernel_rfl) (by kernel_rfl)
      (OpenSpec.preRow_of_cond 8 hx (by kernel_rfl) (fun k hk => by cases hk) (by kernel_rfl) (ofL_met os))) ?_
  intro W base args ds gs before hval hW _ _ _ hL _ _
  exact ofL_contract walk H enc W base args ds gs before hval hW hL

theorem ofL_said (walk : OfLWalk) : Rows.MonzoOfSaid :=
  OpenClaim.holds_of_cond 4 Tryz.f4 rfl rfl rfl rfl rfl rfl rfl ⟨rfl, rfl, rfl, rfl, rfl⟩ rfl rfl rfl rfl rfl (by kernel_rfl) Tryz.func4 (by kernel_rfl)
    (of_decide_eq_true (by kernel_rfl)) (by unfold Func.isWrapper; first | (rw [if_pos (by decide +kernel)]; kernel_rfl) | (rw [if_neg (by decide +kernel)]; exact ⟨rfl, rfl⟩))
    (fun os started H enc _ F => by rw [OpenClaim.pre_eq_preRow]; exact ofL_lifted walk os started H enc F)

end Go.Proofs.YtkoemgemnklmdaaGreatDoor
