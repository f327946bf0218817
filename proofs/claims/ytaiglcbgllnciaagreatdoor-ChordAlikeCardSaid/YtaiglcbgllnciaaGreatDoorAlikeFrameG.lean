/- ChordAlike: frame. -/
import Derived.Test.YtaiglcbgllnciaaGreatDoorArgsG
import Derived.Test.YtaiglcbgllnciaaGreatDoorArgBG
import Derived.Test.YtaiglcbgllnciaaGreatDoorArgWG
import Derived.Test.YtaiglcbgllnciaaGreatDoorStart2G
namespace Go.Proofs.YtaiglcbgllnciaaGreatDoor
open Go.ChangeShapes Go.WideShapes Go.ChangeAt Go.RowKit

set_option maxRecDepth 100000 in
theorem alike_std {W : World} (h : laidMetH Tryz.prog Rows.chordAlikeRow.laid W) : Std W := by
  have h2 : laidMetH Tryz.prog seatLaid2 W := h
  rw [MakeChecks.laidMetH_plain _ _ _ (by kernel_rfl)] at h2
  exact std_of_laid2 h2

/-- What the walk of ChordAlike gives. -/
def AlikeWalk : Prop := ∀ (v0 : Value) (n0 m0 : Nat) (r0 : List Int) (v1 : Value) (n1 m1 : Nat) (r1 : List Int) (v2 : Value) (n2 m2 : Nat) (w : World), Std w → (∃ m, w.cell? ⟨0, 0, Option.none⟩ = some (.int .i64 m)) → WorldArg v0 n0 m0 r0 → WorldArg v1 n1 m1 r1 → TwoArg v2 n2 m2 →
  Calls Tryz.prog 5 #[v0, v1, v2] w fun e w' => e = .returned (.bool true) ∧ Below w.heap.size w w'

set_option maxRecDepth 100000 in
theorem alike_contract (walk : AlikeWalk) (H : Type) (enc : TypeId × Value → H) (W : World) (base : Nat) (args : Array Value) (ds gs : List (DataW H)) (before : List MemPlace)
    (hval : ∀ (j : Nat) t v, Tryz.f5.params[j]? = some t → args[j]? = some v → Value.okWide Tryz.prog W .any base t v)
    (hW : DataW.Whole enc Tryz.prog Tryz.f5.params.toList Rows.chordAlikeSpec.vars false W args.toList ds gs before) (hL : laidMetH Tryz.prog Rows.chordAlikeRow.laid W) (hSh : W.ShapedOpen Tryz.prog) :
    Calls Tryz.prog 5 args W fun e W' => ∃ v, e = .returned v ∧ Rows.chordAlikeSpec.post enc Tryz.prog Tryz.f5 false true false false W args v W' := by
  have hW' := hW
  obtain ⟨p, q, hA0, hV, rfl, hfz, hnd⟩ := hW
  have hA : DataW.TrodAll enc Tryz.prog W 0 (fun _ => true) true Tryz.f5.params.toList args.toList ds p := hA0
  rw [Tryz.params5] at hA hval
  obtain ⟨v0, vs0, d0, ds0, p0, q0, hargs, rfl, rfl, h0, r0⟩ := trodAll_cons hA
  obtain ⟨v1, vs1, d1, ds1, p1, q1, rfl, rfl, rfl, h1, r1⟩ := trodAll_cons r0
  obtain ⟨v2, vs2, d2, ds2, p2, q2, rfl, rfl, rfl, h2, r2⟩ := trodAll_cons r1
  obtain ⟨rfl, rfl, rfl⟩ := trodAll_nil r2
  obtain rfl : args = #[v0, v1, v2] := by cases args; simp_all
  obtain ⟨rfl, rfl⟩ := trodVars_none hV
  have k0_ := h0
  have lt0 : ∀ x ∈ p0, x.block < W.heap.size := by obtain ⟨m, hm⟩ := k0_; exact DataW.trod_lt m _ _ _ hm
  have k1_ := h1
  have lt1 : ∀ x ∈ p1, x.block < W.heap.size := by obtain ⟨m, hm⟩ := k1_; exact DataW.trod_lt m _ _ _ hm
  have k2_ := h2
  have lt2 : ∀ x ∈ p2, x.block < W.heap.size := by obtain ⟨m, hm⟩ := k2_; exact DataW.trod_lt m _ _ _ hm
  obtain ⟨n0, m0, r0, g0⟩ := arg_world (hval 0 26 v0 rfl rfl) h0
  obtain ⟨n1, m1, r1, g1⟩ := arg_world (hval 1 26 v1 rfl rfl) h1
  obtain ⟨n2, m2, g2⟩ := arg_two (hval 2 54 v2 rfl rfl) h2
  clear hA0
  refine (walk _ n0 m0 r0 _ n1 m1 r1 _ n2 m2 W (alike_std hL) (len_of_shaped hSh) g0 g1 g2).mono fun e W' ⟨he, bel⟩ => ?_
  subst he
  exact ⟨_, rfl, _, _, _, [], _, [], hW', trodAll_mk1 (shut_bool Tryz.underlying4 _), (trodAll_cons_mk (Below.trod laidOut (by kernel_rfl) (of_decide_eq_true (by kernel_rfl)) k0_ bel lt0) (trodAll_cons_mk (Below.trod laidOut (by kernel_rfl) (of_decide_eq_true (by kernel_rfl)) k1_ bel lt1) (trodAll_cons_mk (Below.trod laidOut (by kernel_rfl) (of_decide_eq_true (by kernel_rfl)) k2_ bel lt2) trodAll_mk0))), rfl, bel.frame _, fun h => by cases h⟩

noncomputable def alikeWorld (os : Os) : World := World.laidAll Tryz.prog os seatLaid2
theorem alike_met (os : Os) : laidMet Tryz.prog seatLaid2 ((alikeWorld os).forCall (fun _ _ => 0) ⟨#[], #[.agg #[.int .u8 0, .int .u8 0, .int .i8 0, .int .i8 0, .int .i8 0, .int .i8 0, .int .i8 0, .int .i8 0, .int .i8 0, .int .i8 0, .int .i8 0, .int .i8 0, .int .i8 0, .int .i8 0, .int .i8 0, .int .i8 0, .int .i8 0, .int .i8 0, .int .i8 0, .int .i8 0], .agg #[.int .u8 0, .int .u8 0, .int .i8 0, .int .i8 0, .int .i8 0, .int .i8 0, .int .i8 0, .int .i8 0, .int .i8 0, .int .i8 0, .int .i8 0, .int .i8 0, .int .i8 0, .int .i8 0, .int .i8 0, .int .i8 0, .int .i8 0, .int .i8 0, .int .i8 0, .int .i8 0], .agg #[.int .u8 0, .int .u8 0]], []⟩).memory :=
  laidMet_laidAll _ (by kernel_rfl) (by kernel_rfl)
theorem alike_reads (os : Os) {H : Type} (enc : TypeId × Value → H) : ∃ places, DataW.whole enc Tryz.prog ((alikeWorld os).forCall (fun _ _ => 0) ⟨#[], #[.agg #[.int .u8 0, .int .u8 0, .int .i8 0, .int .i8 0, .int .i8 0, .int .i8 0, .int .i8 0, .int .i8 0, .int .i8 0, .int .i8 0, .int .i8 0, .int .i8 0, .int .i8 0, .int .i8 0, .int .i8 0, .int .i8 0, .int .i8 0, .int .i8 0, .int .i8 0, .int .i8 0], .agg #[.int .u8 0, .int .u8 0, .int .i8 0, .int .i8 0, .int .i8 0, .int .i8 0, .int .i8 0, .int .i8 0, .int .i8 0, .int .i8 0, .int .i8 0, .int .i8 0, .int .i8 0, .int .i8 0, .int .i8 0, .int .i8 0, .int .i8 0, .int .i8 0, .int .i8 0, .int .i8 0], .agg #[.int .u8 0, .int .u8 0]], []⟩).memory Tryz.f5.params.toList Rows.chordAlikeSpec.vars false #[Value.agg #[.int .u8 0, .int .u8 0, .int .i8 0, .int .i8 0, .int .i8 0, .int .i8 0, .int .i8 0, .int .i8 0, .int .i8 0, .int .i8 0, .int .i8 0, .int .i8 0, .int .i8 0, .int .i8 0, .int .i8 0, .int .i8 0, .int .i8 0, .int .i8 0, .int .i8 0, .int .i8 0], .agg #[.int .u8 0, .int .u8 0, .int .i8 0, .int .i8 0, .int .i8 0, .int .i8 0, .int .i8 0, .int .i8 0, .int .i8 0, .int .i8 0, .int .i8 0, .int .i8 0, .int .i8 0, .int .i8 0, .int .i8 0, .int .i8 0, .int .i8 0, .int .i8 0, .int .i8 0, .int .i8 0], .agg #[.int .u8 0, .int .u8 0]].toList 8 = some ([.agg [.lit (.int .u8 0), .lit (.int .u8 0), .agg [.agg [.lit (.int .i8 0), .lit (.int .i8 0), .lit (.int .i8 0)], .agg [.lit (.int .i8 0), .lit (.int .i8 0), .lit (.int .i8 0)], .agg [.lit (.int .i8 0), .lit (.int .i8 0), .lit (.int .i8 0)], .agg [.lit (.int .i8 0), .lit (.int .i8 0), .lit (.int .i8 0)], .agg [.lit (.int .i8 0), .lit (.int .i8 0), .lit (.int .i8 0)], .agg [.lit (.int .i8 0), .lit (.int .i8 0), .lit (.int .i8 0)]]], .agg [.lit (.int .u8 0), .lit (.int .u8 0), .agg [.agg [.lit (.int .i8 0), .lit (.int .i8 0), .lit (.int .i8 0)], .agg [.lit (.int .i8 0), .lit (.int .i8 0), .lit (.int .i8 0)], .agg [.lit (.int .i8 0), .lit (.int .i8 0), .lit (.int .i8 0)], .agg [.lit (.int .i8 0), .lit (.int .i8 0), .lit (.int .i8 0)], .agg [.lit (.int .i8 0), .lit (.int .i8 0), .lit (.int .i8 0)], .agg [.lit (.int .i8 0), .lit (.int .i8 0), .lit (.int .i8 0)]]], .agg [.lit (.int .u8 0), .lit (.int .u8 0)]], [], places) :=
  ⟨[], by kernel_rfl⟩

set_option maxRecDepth 100000 in
theorem alike_lifted (walk : AlikeWalk) (os : Os) (started : os.Started) (H : Type) (enc : TypeId × Value → H) (F : Stop.Interp) :
    ReturnsInHanded {} Tryz.checked os 5 .any ((OpenSpec.ofChange Rows.chordAlikeSpec).preRow enc Tryz.prog Tryz.f5 Rows.chordAlikeRow.domain false Rows.chordAlikeRow.laid) (((OpenSpec.ofChange Rows.chordAlikeSpec).at F).post enc Tryz.prog Tryz.f5 false true false false) := by
  obtain ⟨places, hx⟩ := alike_reads os enc
  refine returnsInHanded_of_row (C := Tryz.checked) (s := OpenSpec.ofChange Rows.chordAlikeSpec) own started (by kernel_rfl) Tryz.func5
    (witness_row_at (enc := enc) (C := Tryz.checked) false (alikeWorld os) #[.agg #[.int .u8 0, .int .u8 0, .int .i8 0, .int .i8 0, .int .i8 0, .int .i8 0, .int .i8 0, .int .i8 0, .int .i8 0, .int .i8 0, .int .i8 0, .int .i8 0, .int .i8 0, .int .i8 0, .int .i8 0, .int .i8 0, .int .i8 0, .int .i8 0, .int .i8 0, .int .i8 0], .agg #[.int .u8 0, .int .u8 0, .int .i8 0, .int .i8 0, .int .i8 0, .int .i8 0, .int .i8 0, .int .i8 0, .int .i8 0, .int .i8 0, .int .i8 0, .int .i8 0, .int .i8 0, .int .i8 0, .int .i8 0, .int .i8 0, .int .i8 0, .int .i8 0, .int .i8 0, .int .i8 0], .agg #[.int .u8 0, .int .u8 0]] (World.laidAll_os _ _ _) (by kernel_rfl) (by kernel_rfl) (by kernel_rfl)
      (OpenSpec.preRow_of_cond 8 hx (by kernel_rfl) (fun k hk => by cases hk) (by kernel_rfl) (alike_met os))) ?_
  intro W base args ds gs before hval hW _ _ _ hL hSh _
  exact alike_contract walk H enc W base args ds gs before hval hW hL hSh

end Go.Proofs.YtaiglcbgllnciaaGreatDoor
