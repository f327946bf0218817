/- TargetKeeps: frame. -/
import Derived.Test.YtcfkclafpbaagaaGreatDoorArgsG
import Derived.Test.YtcfkclafpbaagaaGreatDoorArgFoursG
namespace Go.Proofs.YtcfkclafpbaagaaGreatDoor
open Go.ChangeShapes Go.WideShapes Go.ChangeAt Go.RowKit

set_option maxRecDepth 100000 in
theorem keeps_std {W : World} (h : laidMetH Tryz.prog Rows.targetKeepsRow.laid W) : Std W := by
  have h2 : laidMetH Tryz.prog seatLaid W := h
  rw [MakeChecks.laidMetH_plain _ _ _ (by kernel_rfl)] at h2
  exact std_of_laid h2

/-- What the walk of TargetKeeps gives. -/
def KeepsWalk : Prop := ∀ (n0 : Nat) (v1 : Value) (l1 : List (List Int)) (w : World), Std w → n0 ≤ 255 → FoursArg w v1 l1 →
  Calls Tryz.prog 5 #[.int .u8 n0, v1] w fun e w' => e = .returned (.bool true) ∧ Below w.heap.size w w'

set_option maxRecDepth 100000 in
theorem keeps_contract (walk : KeepsWalk) (H : Type) (enc : TypeId × Value → H) (W : World) (base : Nat) (args : Array Value) (ds gs : List (DataW H)) (before : List MemPlace)
    (hval : ∀ (j : Nat) t v, Tryz.f5.params[j]? = some t → args[j]? = some v → Value.okWide Tryz.prog W .any base t v)
    (hW : DataW.Whole enc Tryz.prog Tryz.f5.params.toList Rows.targetKeepsSpec.vars false W args.toList ds gs before) (hL : laidMetH Tryz.prog Rows.targetKeepsRow.laid W) :
    Calls Tryz.prog 5 args W fun e W' => ∃ v, e = .returned v ∧ Rows.targetKeepsSpec.post enc Tryz.prog Tryz.f5 false true false false W args v W' := by
  have hW' := hW
  obtain ⟨p, q, hA0, hV, rfl, hfz, hnd⟩ := hW
  have hA : DataW.TrodAll enc Tryz.prog W 0 (fun _ => true) true Tryz.f5.params.toList args.toList ds p := hA0
  rw [Tryz.params5] at hA hval
  obtain ⟨v0, vs0, d0, ds0, p0, q0, hargs, rfl, rfl, h0, r0⟩ := trodAll_cons hA
  obtain ⟨v1, vs1, d1, ds1, p1, q1, rfl, rfl, rfl, h1, r1⟩ := trodAll_cons r0
  obtain ⟨rfl, rfl, rfl⟩ := trodAll_nil r1
  obtain rfl : args = #[v0, v1] := by cases args; simp_all
  obtain ⟨rfl, rfl⟩ := trodVars_none hV
  have k0_ := h0
  have lt0 : ∀ x ∈ p0, x.block < W.heap.size := by obtain ⟨m, hm⟩ := k0_; exact DataW.trod_lt m _ _ _ hm
  have k1_ := h1
  have lt1 : ∀ x ∈ p1, x.block < W.heap.size := by obtain ⟨m, hm⟩ := k1_; exact DataW.trod_lt m _ _ _ hm
  obtain ⟨n0, rfl, g0⟩ := arg_u8 (hval 0 5 v0 rfl rfl) h0
  obtain ⟨l1, g1⟩ := arg_fours (hval 1 22 v1 rfl rfl) h1
  clear hA0
  refine (walk n0 _ l1 W (keeps_std hL) g0 g1).mono fun e W' ⟨he, bel⟩ => ?_
  subst he
  exact ⟨_, rfl, _, _, _, [], _, [], hW', trodAll_mk1 (shut_bool Tryz.underlying4 _), (trodAll_cons_mk (Below.trod laidOut (by kernel_rfl) (of_decide_eq_true (by kernel_rfl)) k0_ bel lt0) (trodAll_cons_mk (Below.trod laidOut (by kernel_rfl) (of_decide_eq_true (by kernel_rfl)) k1_ bel lt1) trodAll_mk0)), rfl, bel.frame _, fun h => by cases h⟩

noncomputable def keepsWorld (os : Os) : World := World.laidAll Tryz.prog os seatLaid
theorem keeps_met (os : Os) : laidMet Tryz.prog seatLaid ((keepsWorld os).forCall (fun _ _ => 0) ⟨#[], #[.int .u8 0, .slice Option.none 0 0], []⟩).memory :=
  laidMet_laidAll _ (by kernel_rfl) (by kernel_rfl)
theorem keeps_reads (os : Os) {H : Type} (enc : TypeId × Value → H) : ∃ places, DataW.whole enc Tryz.prog ((keepsWorld os).forCall (fun _ _ => 0) ⟨#[], #[.int .u8 0, .slice Option.none 0 0], []⟩).memory Tryz.f5.params.toList Rows.targetKeepsSpec.vars false #[Value.int .u8 0, .slice Option.none 0 0].toList 8 = some ([.lit (.int .u8 0), .nil], [], places) :=
  ⟨[], by kernel_rfl⟩

set_option maxRecDepth 100000 in
theorem keeps_lifted (walk : KeepsWalk) (os : Os) (started : os.Started) (H : Type) (enc : TypeId × Value → H) (F : Stop.Interp) :
    ReturnsInHanded {} Tryz.checked os 5 .any ((OpenSpec.ofChange Rows.targetKeepsSpec).preRow enc Tryz.prog Tryz.f5 Rows.targetKeepsRow.domain false Rows.targetKeepsRow.laid) (((OpenSpec.ofChange Rows.targetKeepsSpec).at F).post enc Tryz.prog Tryz.f5 false true false false) := by
  obtain ⟨places, hx⟩ := keeps_reads os enc
  refine returnsInHanded_of_row (C := Tryz.checked) (s := OpenSpec.ofChange Rows.targetKeepsSpec) own started (by kernel_rfl) Tryz.func5
    (witness_row_at (enc := enc) (C := Tryz.checked) false (keepsWorld os) #[.int .u8 0, .slice Option.none 0 0] (World.laidAll_os _ _ _) (by kernel_rfl) (by kernel_rfl) (by kernel_rfl)
      (OpenSpec.preRow_of_cond 8 hx (by kernel_rfl) (fun k hk => by cases hk) (by kernel_rfl) (keeps_met os))) ?_
  intro W base args ds gs before hval hW _ _ _ hL _ _
  exact keeps_contract walk H enc W base args ds gs before hval hW hL

theorem keeps_said (walk : KeepsWalk) : Rows.TargetKeepsSaid :=
  OpenClaim.holds_of_cond 5 Tryz.f5 rfl rfl rfl rfl rfl rfl rfl ⟨rfl, rfl, rfl, rfl, rfl⟩ rfl rfl rfl rfl rfl (by kernel_rfl) Tryz.func5 (by kernel_rfl)
    (of_decide_eq_true (by kernel_rfl)) (by unfold Func.isWrapper; first | (rw [if_pos (by decide +kernel)]; kernel_rfl) | (rw [if_neg (by decide +kernel)]; exact ⟨rfl, rfl⟩))
    (fun os started H enc _ F => by rw [OpenClaim.pre_eq_preRow]; exact keeps_lifted walk os started H enc F)

end Go.Proofs.YtcfkclafpbaagaaGreatDoor
