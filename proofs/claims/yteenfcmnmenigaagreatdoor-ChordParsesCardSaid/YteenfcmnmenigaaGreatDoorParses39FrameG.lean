/- ChordParses: frame. -/
import Derived.Test.YteenfcmnmenigaaGreatDoorArgsG
import Derived.Test.YteenfcmnmenigaaGreatDoorStart2G
namespace Go.Proofs.YteenfcmnmenigaaGreatDoor
open Go.ChangeShapes Go.WideShapes Go.ChangeAt Go.RowKit

set_option maxRecDepth 100000 in
theorem parses39_std {W : World} (h : laidMetH Tryz.prog Rows.chordParsesRow.laid W) : Std W := by
  have h2 : laidMetH Tryz.prog seatLaid2 W := h
  rw [MakeChecks.laidMetH_plain _ _ _ (by kernel_rfl)] at h2
  exact std_of_laid2 h2

/-- What the walk of ChordParses gives. -/
def Parses39Walk : Prop := ∀ (v0 : Value) (x0 : List Int) (s1 : List UInt8) (w : World), Std w → (∃ m, w.cell? ⟨2, 0, Option.none⟩ = some (.int .i64 m)) → IsRow w w.heap.size v0 x0 → s1.length ≤ maxLen →
  Calls Tryz.prog 5 #[v0, .string ⟨s1.toArray⟩] w fun e w' => e = .returned (.bool true) ∧ Below w.heap.size w w'

set_option maxRecDepth 100000 in
theorem parses39_contract (walk : Parses39Walk) (H : Type) (enc : TypeId × Value → H) (W : World) (base : Nat) (args : Array Value) (ds gs : List (DataW H)) (before : List MemPlace)
    (hval : ∀ (j : Nat) t v, Tryz.f5.params[j]? = some t → args[j]? = some v → Value.okWide Tryz.prog W .any base t v)
    (hW : DataW.Whole enc Tryz.prog Tryz.f5.params.toList Rows.chordParsesSpec.vars false W args.toList ds gs before) (hL : laidMetH Tryz.prog Rows.chordParsesRow.laid W) (hSh : W.ShapedOpen Tryz.prog) :
    Calls Tryz.prog 5 args W fun e W' => ∃ v, e = .returned v ∧ Rows.chordParsesSpec.post enc Tryz.prog Tryz.f5 false true false false W args v W' := by
  have hW' := hW
  obtain ⟨p, q, hA0, hV, rfl, hfz, hnd⟩ := hW
  have hA : DataW.TrodAll enc Tryz.prog W 0 (fun _ => true) true Tryz.f5.params.toList args.toList ds p := hA0
  rw [Tryz.params5] at hA hval
  obtain ⟨v0, vs0, d0, ds0, p0, q0, hargs, rfl, rfl, h0, r0⟩ := trodAll_cons hA
  obtain ⟨v1, vs1, d1, ds1, p1, q1, rfl, rfl, rfl, h1, r1⟩ := trodAll_cons r0
  obtain ⟨rfl, rfl, rfl⟩ := trodAll_nil r1
  obtain rfl : args = #[v0, v1] := by cases args; simp_all
  obtain ⟨rfl, rfl⟩ := trodVars_none hV
  have k0_ := h0
  have lt0 : ∀ x ∈ p0, x.block < W.heap.size := by obtain ⟨m, hm⟩ := k0_; exact DataW.trod_lt m _ _ _ hm
  have k1_ := h1
  have lt1 : ∀ x ∈ p1, x.block < W.heap.size := by obtain ⟨m, hm⟩ := k1_; exact DataW.trod_lt m _ _ _ hm
  obtain ⟨a0, len0, cap0, rfl⟩ := okWide_slice Tryz.underlying23 (hval 0 23 v0 rfl rfl)
  obtain ⟨x0, g0⟩ := arg_row Tryz.underlying23 h0
  obtain ⟨s1, rfl, g1⟩ := arg_str (hval 1 9 v1 rfl rfl) h1
  clear hA0
  refine (walk _ x0 s1 W (parses39_std hL) (len_of_shaped hSh) g0 g1).mono fun e W' ⟨he, bel⟩ => ?_
  subst he
  exact ⟨_, rfl, _, _, _, [], _, [], hW', trodAll_mk1 (shut_bool Tryz.underlying4 _), (trodAll_cons_mk (Below.trod laidOut (by kernel_rfl) (of_decide_eq_true (by kernel_rfl)) k0_ bel lt0) (trodAll_cons_mk (Below.trod laidOut (by kernel_rfl) (of_decide_eq_true (by kernel_rfl)) k1_ bel lt1) trodAll_mk0)), rfl, bel.frame _, fun h => by cases h⟩

noncomputable def parses39World (os : Os) : World := World.laidAll Tryz.prog os seatLaid2
theorem parses39_met (os : Os) : laidMet Tryz.prog seatLaid2 ((parses39World os).forCall (fun _ _ => 0) ⟨#[], #[.slice Option.none 0 0, .string ⟨#[]⟩], []⟩).memory :=
  laidMet_laidAll _ (by kernel_rfl) (by kernel_rfl)
theorem parses39_reads (os : Os) {H : Type} (enc : TypeId × Value → H) : ∃ places, DataW.whole enc Tryz.prog ((parses39World os).forCall (fun _ _ => 0) ⟨#[], #[.slice Option.none 0 0, .string ⟨#[]⟩], []⟩).memory Tryz.f5.params.toList Rows.chordParsesSpec.vars false #[Value.slice Option.none 0 0, .string ⟨#[]⟩].toList 8 = some ([.nil, .lit (.string [])], [], places) :=
  ⟨[], by kernel_rfl⟩

set_option maxRecDepth 100000 in
theorem parses39_lifted (walk : Parses39Walk) (os : Os) (started : os.Started) (H : Type) (enc : TypeId × Value → H) (F : Stop.Interp) :
    ReturnsInHanded {} Tryz.checked os 5 .any ((OpenSpec.ofChange Rows.chordParsesSpec).preRow enc Tryz.prog Tryz.f5 Rows.chordParsesRow.domain false Rows.chordParsesRow.laid) (((OpenSpec.ofChange Rows.chordParsesSpec).at F).post enc Tryz.prog Tryz.f5 false true false false) := by
  obtain ⟨places, hx⟩ := parses39_reads os enc
  refine returnsInHanded_of_row (C := Tryz.checked) (s := OpenSpec.ofChange Rows.chordParsesSpec) own started (by kernel_rfl) Tryz.func5
    (witness_row_at (enc := enc) (C := Tryz.checked) false (parses39World os) #[.slice Option.none 0 0, .string ⟨#[]⟩] (World.laidAll_os _ _ _) (by kernel_rfl) (by kernel_rfl) (by kernel_rfl)
      (OpenSpec.preRow_of_cond 8 hx (by kernel_rfl) (fun k hk => by cases hk) (by kernel_rfl) (parses39_met os))) ?_
  intro W base args ds gs before hval hW _ _ _ hL hSh _
  exact parses39_contract walk H enc W base args ds gs before hval hW hL hSh

theorem parses39_said (walk : Parses39Walk) : Rows.ChordParsesSaid :=
  OpenClaim.holds_of_cond 5 Tryz.f5 rfl rfl rfl rfl rfl rfl rfl ⟨rfl, rfl, rfl, rfl, rfl⟩ rfl rfl rfl rfl rfl (by kernel_rfl) Tryz.func5 (by kernel_rfl)
    (of_decide_eq_true (by kernel_rfl)) (by unfold Func.isWrapper; first | (rw [if_pos (by decide +kernel)]; kernel_rfl) | (rw [if_neg (by decide +kernel)]; exact ⟨rfl, rfl⟩))
    (fun os started H enc _ F => by rw [OpenClaim.pre_eq_preRow]; exact parses39_lifted walk os started H enc F)

end Go.Proofs.YteenfcmnmenigaaGreatDoor
