/- ScoreNotes: frame. -/
import Derived.Test.YtphlodmdcmcjnaaGreatDoorArgsCv
import Derived.Test.YtphlodmdcmcjnaaGreatDoorArgPlCv
import Derived.Test.YtphlodmdcmcjnaaGreatDoorStart2Cv
namespace Go.Proofs.YtphlodmdcmcjnaaGreatDoor
open Go.ChangeShapes Go.WideShapes Go.ChangeAt Go.RowKit

set_option maxRecDepth 100000 in
theorem scNot_std {W : World} (h : laidMetH Tryz.prog Rows.scoreNotesRow.laid W) : Std W := by
  have h2 : laidMetH Tryz.prog seatLaid2 W := h
  rw [MakeChecks.laidMetH_plain _ _ _ (by kernel_rfl)] at h2
  exact std_of_laid2 h2

/-- What the walk of ScoreNotes gives. -/
def ScNotWalk : Prop := ∀ (n0 : Nat) (v0 : Value) (l0 : List (List Bt)) (w : World), Std w → (∃ m, w.cell? ⟨0, 0, Option.none⟩ = some (.int .i64 m)) → n0 ≤ 255 → PlA w v0 l0 →
  Calls Tryz.prog 11 #[.agg #[.int .u8 n0, v0]] w fun e w' => e = .returned (.bool true) ∧ Below w.heap.size w w'

set_option maxRecDepth 100000 in
theorem scNot_contract (walk : ScNotWalk) (H : Type) (enc : TypeId × Value → H) (W : World) (base : Nat) (args : Array Value) (ds gs : List (DataW H)) (before : List MemPlace)
    (hval : ∀ (j : Nat) t v, Tryz.f11.params[j]? = some t → args[j]? = some v → Value.okWide Tryz.prog W .any base t v)
    (hW : DataW.Whole enc Tryz.prog Tryz.f11.params.toList Rows.scoreNotesSpec.vars false W args.toList ds gs before) (hL : laidMetH Tryz.prog Rows.scoreNotesRow.laid W) (hSh : W.ShapedOpen Tryz.prog) :
    Calls Tryz.prog 11 args W fun e W' => ∃ v, e = .returned v ∧ Rows.scoreNotesSpec.post enc Tryz.prog Tryz.f11 false true false false W args v W' := by
  have hW' := hW
  obtain ⟨p, q, hA0, hV, rfl, hfz, hnd⟩ := hW
  have hA : DataW.TrodAll enc Tryz.prog W 0 (fun _ => true) true Tryz.f11.params.toList args.toList ds p := hA0
  rw [Tryz.params11] at hA hval
  obtain ⟨v0, vs0, d0, ds0, p0, q0, hargs, rfl, rfl, h0, r0⟩ := trodAll_cons hA
  obtain ⟨rfl, rfl, rfl⟩ := trodAll_nil r0
  obtain rfl : args = #[v0] := by cases args; simp_all
  obtain ⟨rfl, rfl⟩ := trodVars_none hV
  have k0_ := h0
  have lt0 : ∀ x ∈ p0, x.block < W.heap.size := by obtain ⟨m, hm⟩ := k0_; exact DataW.trod_lt m _ _ _ hm
  obtain ⟨n0, pv0, l0, rfl, g0, f0⟩ := arg_plan48 (hval 0 24 v0 rfl rfl) h0
  clear hA0
  refine (walk n0 pv0 l0 W (scNot_std hL) (len_of_shaped hSh) g0 f0).mono fun e W' ⟨he, bel⟩ => ?_
  subst he
  exact ⟨_, rfl, _, _, _, [], _, [], hW', trodAll_mk1 (shut_bool Tryz.underlying4 _), (trodAll_cons_mk (Below.trod laidOut (by kernel_rfl) (of_decide_eq_true (by kernel_rfl)) k0_ bel lt0) trodAll_mk0), rfl, bel.frame _, fun h => by cases h⟩

noncomputable def scNotWorld (os : Os) : World := World.laidAll Tryz.prog os seatLaid2
theorem scNot_met (os : Os) : laidMet Tryz.prog seatLaid2 ((scNotWorld os).forCall (fun _ _ => 0) ⟨#[], #[.agg #[.int .u8 0, .slice Option.none 0 0]], []⟩).memory :=
  laidMet_laidAll _ (by kernel_rfl) (by kernel_rfl)
theorem scNot_reads (os : Os) {H : Type} (enc : TypeId × Value → H) : ∃ places, DataW.whole enc Tryz.prog ((scNotWorld os).forCall (fun _ _ => 0) ⟨#[], #[.agg #[.int .u8 0, .slice Option.none 0 0]], []⟩).memory Tryz.f11.params.toList Rows.scoreNotesSpec.vars false #[Value.agg #[.int .u8 0, .slice Option.none 0 0]].toList 8 = some ([.agg [.lit (.int .u8 0), .nil]], [], places) :=
  ⟨[], by kernel_rfl⟩

set_option maxRecDepth 100000 in
theorem scNot_lifted (walk : ScNotWalk) (os : Os) (started : os.Started) (H : Type) (enc : TypeId × Value → H) (F : Stop.Interp) :
    ReturnsInHanded {} Tryz.checked os 11 .any ((OpenSpec.ofChange Rows.scoreNotesSpec).preRow enc Tryz.prog Tryz.f11 Rows.scoreNotesRow.domain false Rows.scoreNotesRow.laid) (((OpenSpec.ofChange Rows.scoreNotesSpec).at F).post enc Tryz.prog Tryz.f11 false true false false) := by
  obtain ⟨places, hx⟩ := scNot_reads os enc
  refine returnsInHanded_of_row (C := Tryz.checked) (s := OpenSpec.ofChange Rows.scoreNotesSpec) own started (by kernel_rfl) Tryz.func11
    (witness_row_at (enc := enc) (C := Tryz.checked) false (scNotWorld os) #[.agg #[.int .u8 0, .slice Option.none 0 0]] (World.laidAll_os _ _ _) (by kernel_rfl) (by kernel_rfl) (by kernel_rfl)
      (OpenSpec.preRow_of_cond 8 hx (by kernel_rfl) (fun k hk => by cases hk) (by kernel_rfl) (scNot_met os))) ?_
  intro W base args ds gs before hval hW _ _ _ hL hSh _
  exact scNot_contract walk H enc W base args ds gs before hval hW hL hSh

end Go.Proofs.YtphlodmdcmcjnaaGreatDoor
