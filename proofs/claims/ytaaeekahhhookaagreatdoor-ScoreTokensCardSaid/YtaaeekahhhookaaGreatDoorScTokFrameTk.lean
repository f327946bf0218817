/- ScoreTokens: frame. -/
import Derived.Test.YtaaeekahhhookaaGreatDoorChecksFrameTk
import Derived.Test.YtaaeekahhhookaaGreatDoorGGMTk
import Derived.Test.YtaaeekahhhookaaGreatDoorArgU8Tk
import Derived.Test.YtaaeekahhhookaaGreatDoorStart2Tk
namespace Go.Proofs.YtaaeekahhhookaaGreatDoor
open Go.ChangeShapes Go.WideShapes Go.ChangeAt Go.RowKit

set_option maxRecDepth 100000 in
theorem scTok_std {W : World} (h : laidMetH Tryz.prog Rows.scoreTokensRow.laid W) : Std W := by
 have h2 : laidMetH Tryz.prog seatLaid2 W := h
 rw [MakeChecks.laidMetH_plain _ _ _ (by kernel_rfl)] at h2
 exact std_of_laid2 h2

/-- What the walk of ScoreTokens gives. -/
def ScTokWalk : Prop := ∀ (v0 : Value) (l0 : List Nat) (w : World), Std w → (∃ m, w.cell? ⟨0, 0, Option.none⟩ = some (.int .i64 m)) → U8A w v0 l0 →
 Calls Tryz.prog 3 #[v0] w fun e w' => e = .returned (.bool true) ∧ Below w.heap.size w w'

set_option maxRecDepth 100000 in
theorem scTok_contract (walk : ScTokWalk) (H : Type) (enc : TypeId × Value → H) (W : World) (base : Nat) (args : Array Value) (ds gs : List (DataW H)) (before : List MemPlace)
  (hval : ∀ (j : Nat) t v, Tryz.f3.params[j]? = some t → args[j]? = some v → Value.okWide Tryz.prog W .any base t v)
  (hW : DataW.Whole enc Tryz.prog Tryz.f3.params.toList Rows.scoreTokensSpec.vars false W args.toList ds gs before) (hL : laidMetH Tryz.prog Rows.scoreTokensRow.laid W) (hSh : W.ShapedOpen Tryz.prog) :
  Calls Tryz.prog 3 args W fun e W' => ∃ v, e = .returned v ∧ Rows.scoreTokensSpec.post enc Tryz.prog Tryz.f3 false true false false W args v W' := by
 have hW' := hW
 obtain ⟨p, q, hA0, hV, rfl, hfz, hnd⟩ := hW
 have hA : DataW.TrodAll enc Tryz.prog W 0 (fun _ => true) true Tryz.f3.params.toList args.toList ds p := hA0
 rw [Tryz.params3] at hA hval
 obtain ⟨v0, vs0, d0, ds0, p0, q0, hargs, rfl, rfl, h0, r0⟩ := trodAll_cons hA
 obtain ⟨rfl, rfl, rfl⟩ := trodAll_nil r0
 obtain rfl : args = #[v0] := by cases args; simp_all
 obtain ⟨rfl, rfl⟩ := trodVars_none hV
 have k0_ := h0
 have lt0 : ∀ x ∈ p0, x.block < W.heap.size := by obtain ⟨m, hm⟩ := k0_; exact DataW.trod_lt m _ _ _ hm
 obtain ⟨l0, f0⟩ := arg_u8s (hval 0 22 v0 rfl rfl) h0
 clear hA0
 refine (walk v0 l0 W (scTok_std hL) (len_of_shaped hSh) f0).mono fun e W' ⟨he, bel⟩ => ?_
 subst he
 exact ⟨_, rfl, _, _, _, [], _, [], hW', trodAll_mk1 (shut_bool Tryz.underlying4 _), (trodAll_cons_mk (Below.trod laidOut (by kernel_rfl) (of_decide_eq_true (by kernel_rfl)) k0_ bel lt0) trodAll_mk0), rfl, bel.frame _, fun h => by cases h⟩

noncomputable def scTokWorld (os : Os) : World := World.laidAll Tryz.prog os seatLaid2
theorem scTok_met (os : Os) : laidMet Tryz.prog seatLaid2 ((scTokWorld os).forCall (fun _ _ => 0) ⟨#[], #[.slice Option.none 0 0], []⟩).memory :=
 laidMet_laidAll _ (by kernel_rfl) (by kernel_rfl)
theorem scTok_reads (os : Os) {H : Type} (enc : TypeId × Value → H) : ∃ places, DataW.whole enc Tryz.prog ((scTokWorld os).forCall (fun _ _ => 0) ⟨#[], #[.slice Option.none 0 0], []⟩).memory Tryz.f3.params.toList Rows.scoreTokensSpec.vars false #[Value.slice Option.none 0 0].toList 8 = some ([.nil], [], places) :=
 ⟨[], by kernel_rfl⟩

set_option maxRecDepth 100000 in
theorem scTok_lifted (walk : ScTokWalk) (os : Os) (started : os.Started) (H : Type) (enc : TypeId × Value → H) (F : Stop.Interp) :
  ReturnsInHanded {} Tryz.checked os 3 .any ((OpenSpec.ofChange Rows.scoreTokensSpec).preRow enc Tryz.prog Tryz.f3 Rows.scoreTokensRow.domain false Rows.scoreTokensRow.laid) (((OpenSpec.ofChange Rows.scoreTokensSpec).at F).post enc Tryz.prog Tryz.f3 false true false false) := by
 obtain ⟨places, hx⟩ := scTok_reads os enc
 refine returnsInHanded_of_row (C := Tryz.checked) (s := OpenSpec.ofChange Rows.scoreTokensSpec) own started (by kernel_rfl) Tryz.func3
  (witness_row_at (enc := enc) (C := Tryz.checked) false (scTokWorld os) #[.slice Option.none 0 0] (World.laidAll_os _ _ _) (by kernel_rfl) (by kernel_rfl) (by kernel_rfl)
    (OpenSpec.preRow_of_cond 8 hx (by kernel_rfl) (fun k hk => by cases hk) (by kernel_rfl) (scTok_met os))) ?_
 intro W base args ds gs before hval hW _ _ _ hL hSh _
 exact scTok_contract walk H enc W base args ds gs before hval hW hL hSh

end Go.Proofs.YtaaeekahhhookaaGreatDoor
