/- TargetOdd: frame. -/
import Derived.Test.YtcfkclafpbaagaaGreatDoorArgsG
import Derived.Test.YtcfkclafpbaagaaGreatDoorOddsG
namespace Go.Proofs.YtcfkclafpbaagaaGreatDoor
open Go.ChangeShapes Go.WideShapes Go.ChangeAt Go.RowKit

set_option maxRecDepth 100000 in
theorem odds_std {W : World} (h : laidMetH Tryz.prog Rows.targetOddRow.laid W) : Std W := by
  have h2 : laidMetH Tryz.prog seatLaid W := h
  rw [MakeChecks.laidMetH_plain _ _ _ (by kernel_rfl)] at h2
  exact std_of_laid h2

/-- What the walk of TargetOdd gives. -/
def OddsWalk : Prop := ∀ (v0 : Value) (x0 : List Int) (k1 : Int) (w : World), Std w → IsRow w w.heap.size v0 x0 → -9223372036854775808 ≤ k1 → k1 ≤ 9223372036854775807 →
  Calls Tryz.prog 6 #[v0, .int .i64 k1] w fun e w' => e = .returned (.bool true) ∧ Below w.heap.size w w'

set_option maxRecDepth 100000 in
theorem odds_contract (walk : OddsWalk) (H : Type) (enc : TypeId × Value → H) (W : World) (base : Nat) (args : Array Value) (ds gs : List (DataW H)) (before : List MemPlace)
    (hval : ∀ (j : Nat) t v, Tryz.f6.params[j]? = some t → args[j]? = some v → Value.okWide Tryz.prog W .any base t v)
    (hW : DataW.Whole enc Tryz.prog Tryz.f6.params.toList Rows.targetOddSpec.vars false W args.toList ds gs before) (hL : laidMetH Tryz.prog Rows.targetOddRow.laid W) :
    Calls Tryz.prog 6 args W fun e W' => ∃ v, e = .returned v ∧ Rows.targetOddSpec.post enc Tryz.prog Tryz.f6 false true false false W args v W' := by
  have hW' := hW
  obtain ⟨p, q, hA0, hV, rfl, hfz, hnd⟩ := hW
  have hA : DataW.TrodAll enc Tryz.prog W 0 (fun _ => true) true Tryz.f6.params.toList args.toList ds p := hA0
  rw [Tryz.params6] at hA hval
  obtain ⟨v0, vs0, d0, ds0, p0, q0, hargs, rfl, rfl, h0, r0⟩ := trodAll_cons hA
  obtain ⟨v1, vs1, d1, ds1, p1, q1, rfl, rfl, rfl, h1, r1⟩ := trodAll_cons r0
  obtain ⟨rfl, rfl, rfl⟩ := trodAll_nil r1
  obtain rfl : args = #[v0, v1] := by cases args; simp_all
  obtain ⟨rfl, rfl⟩ := trodVars_none hV
  have k0_ := h0
  have lt0 : ∀ x ∈ p0, x.block < W.heap.size := by obtain ⟨m, hm⟩ := k0_; exact DataW.trod_lt m _ _ _ hm
  have k1_ := h1
  have lt1 : ∀ x ∈ p1, x.block < W.heap.size := by obtain ⟨m, hm⟩ := k1_; exact DataW.trod_lt m _ _ _ hm
  obtain ⟨a0, len0, cap0, rfl⟩ := okWide_slice Tryz.underlying25 (hval 0 25 v0 rfl rfl)
  obtain ⟨x0, g0⟩ := arg_row Tryz.underlying25 h0
  obtain ⟨k1, rfl, g1, j1⟩ := arg_i64 (hval 1 3 v1 rfl rfl) h1
  clear hA0
  refine (walk _ x0 k1 W (odds_std hL) g0 g1 j1).mono fun e W' ⟨he, bel⟩ => ?_
  subst he
  exact ⟨_, rfl, _, _, _, [], _, [], hW', trodAll_mk1 (shut_bool Tryz.underlying4 _), (trodAll_cons_mk (Below.trod laidOut (by kernel_rfl) (of_decide_eq_true (by kernel_rfl)) k0_ bel lt0) (trodAll_cons_mk (Below.trod laidOut (by kernel_rfl) (of_decide_eq_true (by kernel_rfl)) k1_ bel lt1) trodAll_mk0)), rfl, bel.frame _, fun h => by cases h⟩

noncomputable def oddsWorld (os : Os) : World := World.laidAll Tryz.prog os seatLaid
theorem odds_met (os : Os) : laidMet Tryz.prog seatLaid ((oddsWorld os).forCall (fun _ _ => 0) ⟨#[], #[.slice Option.none 0 0, .int .i64 0], []⟩).memory :=
  laidMet_laidAll _ (by kernel_rfl) (by kernel_rfl)
theorem odds_reads (os : Os) {H : Type} (enc : TypeId × Value → H) : ∃ places, DataW.whole enc Tryz.prog ((oddsWorld os).forCall (fun _ _ => 0) ⟨#[], #[.slice Option.none 0 0, .int .i64 0], []⟩).memory Tryz.f6.params.toList Rows.targetOddSpec.vars false #[Value.slice Option.none 0 0, .int .i64 0].toList 8 = some ([.nil, .lit (.int .i64 0)], [], places) :=
  ⟨[], by kernel_rfl⟩

set_option maxRecDepth 100000 in
theorem odds_lifted (walk : OddsWalk) (os : Os) (started : os.Started) (H : Type) (enc : TypeId × Value → H) (F : Stop.Interp) :
    ReturnsInHanded {} Tryz.checked os 6 .any ((OpenSpec.ofChange Rows.targetOddSpec).preRow enc Tryz.prog Tryz.f6 Rows.targetOddRow.domain false Rows.targetOddRow.laid) (((OpenSpec.ofChange Rows.targetOddSpec).at F).post enc Tryz.prog Tryz.f6 false true false false) := by
  obtain ⟨places, hx⟩ := odds_reads os enc
  refine returnsInHanded_of_row (C := Tryz.checked) (s := OpenSpec.ofChange Rows.targetOddSpec) own started (by kernel_rfl) Tryz.func6
    (witness_row_at (enc := enc) (C := Tryz.checked) false (oddsWorld os) #[.slice Option.none 0 0, .int .i64 0] (World.laidAll_os _ _ _) (by kernel_rfl) (by kernel_rfl) (by kernel_rfl)
      (OpenSpec.preRow_of_cond 8 hx (by kernel_rfl) (fun k hk => by cases hk) (by kernel_rfl) (odds_met os))) ?_
  intro W base args ds gs before hval hW _ _ _ hL _ _
  exact odds_contract walk H enc W base args ds gs before hval hW hL

theorem odds_said (walk : OddsWalk) : Rows.TargetOddSaid :=
  OpenClaim.holds_of_cond 6 Tryz.f6 rfl rfl rfl rfl rfl rfl rfl ⟨rfl, rfl, rfl, rfl, rfl⟩ rfl rfl rfl rfl rfl (by kernel_rfl) Tryz.func6 (by kernel_rfl)
    (of_decide_eq_true (by kernel_rfl)) (by unfold Func.isWrapper; first | (rw [if_pos (by decide +kernel)]; kernel_rfl) | (rw [if_neg (by decide +kernel)]; exact ⟨rfl, rfl⟩))
    (fun os started H enc _ F => by rw [OpenClaim.pre_eq_preRow]; exact odds_lifted walk os started H enc F)

end Go.Proofs.YtcfkclafpbaagaaGreatDoor

namespace Go.Proofs.YtcfkclafpbaagaaGreatDoor
open Go.ChangeShapes Go.WideShapes Go.ChangeAt Go.RowKit

theorem odds_all : OddsWalk := odds_walk

theorem odds_plain (f : FuncId) (fn : Func) (hf : Tryz.pinned.checked.prog.funcNamed "schisma/schismalaw29.TargetOdd" = some f) (hfn : Tryz.pinned.checked.prog.funcs[f]? = some fn) :
    true = Tryz.pinned.checked.prog.looks [] ∧ ∀ (j : Nat) t, fn.params[j]? = some t → Tryz.pinned.checked.prog.wantsStandIn t = false := by
  obtain rfl : f = 6 := Option.some.inj ((show Tryz.prog.funcNamed "schisma/schismalaw29.TargetOdd" = some 6 by kernel_rfl).symm.trans hf) |>.symm
  obtain rfl : fn = Tryz.f6 := (Option.some.inj (Tryz.func6.symm.trans hfn)).symm
  refine ⟨by kernel_rfl, fun j t ht => ?_⟩
  rw [Tryz.params6] at ht
  have hm := Array.mem_of_getElem? ht
  have h1 : t = 25 ∨ t = 3 := by simpa using hm
  rcases h1 with rfl | rfl
  · exact (show Tryz.prog.wantsStandIn 25 = false by kernel_rfl)
  · exact (show Tryz.prog.wantsStandIn 3 = false by kernel_rfl)

theorem odds_card : Rows.TargetOddCardSaid :=
  Claim7.holds_tied_plain_at .later [] _ _ _ _ (odds_said odds_all) (fun _ h => by cases h) (by kernel_rfl) (fun _ h => by cases h) targetOdd_row_tie rfl ⟨rfl, rfl⟩ (by kernel_rfl) rfl odds_plain (by kernel_rfl)

end Go.Proofs.YtcfkclafpbaagaaGreatDoor
