import Derived.Test.YtaaeekahhhookaaGreatDoorArgsCk
import Derived.Test.YtaaeekahhhookaaGreatDoorArgPlMCk
import Derived.Test.YtaaeekahhhookaaGreatDoorStart2Ck
namespace Go.Proofs.YtaaeekahhhookaaGreatDoor
open Go.ChangeShapes Go.WideShapes Go.ChangeAt Go.RowKit
set_option maxRecDepth 100000 in
theorem scChk_std {W : World} (h : laidMetH Tryz.prog Rows.scoreChecksRow.laid W) : Std W := by
 have h2 : laidMetH Tryz.prog seatLaid2 W := h
 rw [MakeChecks.laidMetH_plain _ _ _ (by kernel_rfl)] at h2
 exact std_of_laid2 h2
def ScChkWalk : Prop := ∀ (n0 : Nat) (v0 : Value) (l0 : List (List Bt)) (how1 : Nat) (nm1 nu1 de1 : List UInt8) (nv1 : Value) (note1 : List Int) (w : World), Std w → (∃ m, w.cell? ⟨0, 0, Option.none⟩ = some (.int .i64 m)) → n0 ≤ 255 → PlA w v0 l0 → how1 ≤ 255 → (nm1.length ≤ maxLen ∧ nu1.length ≤ maxLen ∧ de1.length ≤ maxLen) → IsRow w w.heap.size nv1 note1 →
 Calls Tryz.prog 5 #[.agg #[.int .u8 n0, v0], .agg #[.int .u8 how1, .string ⟨nm1.toArray⟩, .string ⟨nu1.toArray⟩, .string ⟨de1.toArray⟩, nv1]] w fun e w' => e = .returned (.bool true) ∧ Below w.heap.size w w'
set_option maxRecDepth 100000 in
theorem scChk_contract (walk : ScChkWalk) (H : Type) (enc : TypeId × Value → H) (W : World) (base : Nat) (args : Array Value) (ds gs : List (DataW H)) (before : List MemPlace)
  (hval : ∀ (j : Nat) t v, Tryz.f5.params[j]? = some t → args[j]? = some v → Value.okWide Tryz.prog W .any base t v)
  (hW : DataW.Whole enc Tryz.prog Tryz.f5.params.toList Rows.scoreChecksSpec.vars false W args.toList ds gs before) (hL : laidMetH Tryz.prog Rows.scoreChecksRow.laid W) (hSh : W.ShapedOpen Tryz.prog) :
  Calls Tryz.prog 5 args W fun e W' => ∃ v, e = .returned v ∧ Rows.scoreChecksSpec.post enc Tryz.prog Tryz.f5 false true false false W args v W' := by
 have hW' := hW
 obtain ⟨p, q, hA0, hV, rfl, hfz, hnd⟩ := hW
 have hA : DataW.TrodAll enc Tryz.prog W 0 (fun _ => true) true Tryz.f5.params.toList args.toList ds p := hA0
 rw [Tryz.params5] at hA hval
 obtain ⟨v0, vs0, d0, ds0, p0, q0, hargs, rfl, rfl, h0, r0⟩ := trodAll_cons hA
 obtain ⟨v1, vs1, d1, ds1, p1, q1, rfl, rfl, rfl, h1, r1⟩ := trodAll_cons r0
 obtain ⟨rfl, rfl, rfl⟩ := trodAll_nil r1
 obtain rfl : args = #[v0, v1] := by cases args; simp_all
 obtain ⟨rfl, rfl⟩ := trodVars_none hV
 have k0_ := h0
 have lt0 : ∀ x ∈ p0, x.block < W.heap.size := by obtain ⟨m, hm⟩ := k0_; exact DataW.trod_lt m _ _ _ hm
 have k1_ := h1
 have lt1 : ∀ x ∈ p1, x.block < W.heap.size := by obtain ⟨m, hm⟩ := k1_; exact DataW.trod_lt m _ _ _ hm
 obtain ⟨n0, pv0, l0, rfl, g0, f0⟩ := arg_plan48 (hval 0 39 v0 rfl rfl) h0
 obtain ⟨how1, nm1, nu1, de1, nv1, note1, rfl, g1, f1, e1⟩ := arg_change (hval 1 60 v1 rfl rfl) h1
 clear hA0
 refine (walk n0 pv0 l0 how1 nm1 nu1 de1 nv1 note1 W (scChk_std hL) (len_of_shaped hSh) g0 f0 g1 f1 e1).mono fun e W' ⟨he, bel⟩ => ?_
 subst he
 exact ⟨_, rfl, _, _, _, [], _, [], hW', trodAll_mk1 (shut_bool Tryz.underlying4 _), (trodAll_cons_mk (Below.trod laidOut (by kernel_rfl) (of_decide_eq_true (by kernel_rfl)) k0_ bel lt0) (trodAll_cons_mk (Below.trod laidOut (by kernel_rfl) (of_decide_eq_true (by kernel_rfl)) k1_ bel lt1) trodAll_mk0)), rfl, bel.frame _, fun h => by cases h⟩
noncomputable def scChkWorld (os : Os) : World := World.laidAll Tryz.prog os seatLaid2
theorem scChk_met (os : Os) : laidMet Tryz.prog seatLaid2 ((scChkWorld os).forCall (fun _ _ => 0) ⟨#[], #[.agg #[.int .u8 0, .slice Option.none 0 0], .agg #[.int .u8 0, .string ⟨#[]⟩, .string ⟨#[]⟩, .string ⟨#[]⟩, .slice Option.none 0 0]], []⟩).memory :=
 laidMet_laidAll _ (by kernel_rfl) (by kernel_rfl)
theorem scChk_reads (os : Os) {H : Type} (enc : TypeId × Value → H) : ∃ places, DataW.whole enc Tryz.prog ((scChkWorld os).forCall (fun _ _ => 0) ⟨#[], #[.agg #[.int .u8 0, .slice Option.none 0 0], .agg #[.int .u8 0, .string ⟨#[]⟩, .string ⟨#[]⟩, .string ⟨#[]⟩, .slice Option.none 0 0]], []⟩).memory Tryz.f5.params.toList Rows.scoreChecksSpec.vars false #[Value.agg #[.int .u8 0, .slice Option.none 0 0], .agg #[.int .u8 0, .string ⟨#[]⟩, .string ⟨#[]⟩, .string ⟨#[]⟩, .slice Option.none 0 0]].toList 8 = some ([.agg [.lit (.int .u8 0), .nil], .agg [.lit (.int .u8 0), .lit (.string []), .agg [.lit (.string []), .lit (.string [])], .nil]], [], places) :=
 ⟨[], by kernel_rfl⟩
set_option maxRecDepth 100000 in
theorem scChk_lifted (walk : ScChkWalk) (os : Os) (started : os.Started) (H : Type) (enc : TypeId × Value → H) (F : Stop.Interp) :
  ReturnsInHanded {} Tryz.checked os 5 .any ((OpenSpec.ofChange Rows.scoreChecksSpec).preRow enc Tryz.prog Tryz.f5 Rows.scoreChecksRow.domain false Rows.scoreChecksRow.laid) (((OpenSpec.ofChange Rows.scoreChecksSpec).at F).post enc Tryz.prog Tryz.f5 false true false false) := by
 obtain ⟨places, hx⟩ := scChk_reads os enc
 refine returnsInHanded_of_row (C := Tryz.checked) (s := OpenSpec.ofChange Rows.scoreChecksSpec) own started (by kernel_rfl) Tryz.func5
  (witness_row_at (enc := enc) (C := Tryz.checked) false (scChkWorld os) #[.agg #[.int .u8 0, .slice Option.none 0 0], .agg #[.int .u8 0, .string ⟨#[]⟩, .string ⟨#[]⟩, .string ⟨#[]⟩, .slice Option.none 0 0]] (World.laidAll_os _ _ _) (by kernel_rfl) (by kernel_rfl) (by kernel_rfl)
    (OpenSpec.preRow_of_cond 8 hx (by kernel_rfl) (fun k hk => by cases hk) (by kernel_rfl) (scChk_met os))) ?_
 intro W base args ds gs before hval hW _ _ _ hL hSh _
 exact scChk_contract walk H enc W base args ds gs before hval hW hL hSh
set_option maxRecDepth 100000 in
set_option maxHeartbeats 4000000 in
theorem scChk_closed : joinedFacts Tryz.pinned.checked.prog 5 Tryz.f5 (OpenSpec.ofChange Rows.scoreChecksSpec).bare Rows.scoreChecksRow = true := by
 unfold joinedFacts
 simp only [Bool.and_eq_true]
 repeat' apply And.intro
 all_goals as_aux_lemma => kernel_rfl
set_option maxRecDepth 100000 in
set_option maxHeartbeats 4000000 in
theorem scChk_said (walk : ScChkWalk) : Rows.ScoreChecksSaid :=
 OpenClaim.holds_of_cond 5 Tryz.f5 rfl rfl rfl rfl rfl rfl rfl ⟨rfl, rfl, rfl, rfl, rfl⟩ rfl rfl rfl rfl rfl (by kernel_rfl) Tryz.func5 scChk_closed
  (of_decide_eq_true (by kernel_rfl)) (by unfold Func.isWrapper; first | (rw [if_pos (by decide +kernel)]; kernel_rfl) | (rw [if_neg (by decide +kernel)]; exact ⟨rfl, rfl⟩))
  (fun os started H enc _ F => by rw [OpenClaim.pre_eq_preRow]; exact scChk_lifted walk os started H enc F)
end Go.Proofs.YtaaeekahhhookaaGreatDoor
