/- MonzoChecks: frame. -/
import Derived.Test.YtkoemgemnklmdaaGreatDoorCards
import Derived.Test.YtkoemgemnklmdaaGreatDoorTie
import Derived.Test.YtkoemgemnklmdaaGreatDoorStartG
import Derived.Test.YtkoemgemnklmdaaGreatDoorGE
import Derived.WalkKit
import Derived.ProofKit
import Derived.OpenShut
import Derived.ShutString
import Derived.ChangeOld
import Derived.Below
import Derived.Deep.DeepHandedRow
import Derived.MakeChecks
namespace Go.Proofs.YtkoemgemnklmdaaGreatDoor
open Go.ChangeShapes Go.WideShapes Go.ChangeAt Go.RowKit

theorem own : ownKnob Tryz.prog.godebug = Option.none := by kernel_rfl
theorem laidOut : laidOutB Tryz.prog = true := by kernel_rfl

/-- A slice of ints that came in, as a row. -/
theorem arg_row {H : Type} {enc : TypeId × Value → H} {W : World} {held : Bool} {t : TypeId} {a : Option Addr} {len cap : Nat} {d : DataW H} {p : List MemPlace}
    (ht : Tryz.prog.underlying t = some (.slice 3)) (h : DataW.Trod enc Tryz.prog W 0 (fun _ => true) held t (.slice a len cap) d p) :
    ∃ x : List Int, IsRow W W.heap.size (.slice a len cap) x := by
  obtain ⟨fuel, hf⟩ := h
  rcases open_ints ht Tryz.underlying3 (by kernel_rfl) hf with ⟨hcs, _⟩ | ⟨x, l, c, zs, hcs, _, hl, hm, hz, _, hcell, hwz⟩
  · simp [Value.cells] at hcs
    obtain ⟨rfl, rfl, rfl⟩ := hcs
    exact ⟨[], Option.none, 0, rfl, Nat.le_refl _, Nat.zero_le _, Row.nil _ _ _ _⟩
  · simp [Value.cells] at hcs
    obtain ⟨rfl, rfl, rfl⟩ := hcs
    have hzl : zs.length = cap := by simpa using hz
    have hlen : len ≤ zs.length := by omega
    refine ⟨zs.take len, some x, cap, by rw [List.length_take, Nat.min_eq_left hlen], by rw [List.length_take, Nat.min_eq_left hlen]; exact hl, hm, by rw [is_length]; simp, fun k u hu => ?_⟩
    have hk : k < (zs.take len).length := by have := (List.getElem?_eq_some_iff.1 hu).1; rw [is_length] at this; exact this
    have hk2 : k < zs.length := by rw [List.length_take] at hk; omega
    have hc := hcell k hk2
    have e : u = .int .i64 (zs.getD k 0) := by
      unfold is at hu
      rw [List.getElem?_map, List.getElem?_eq_getElem hk] at hu
      simp at hu
      rw [← hu]
      simp [List.getD, List.getElem?_eq_getElem hk2]
    exact ⟨x, rfl, by have := World.block_lt_of_cell? W _ hc; rw [add_block] at this; exact this, by rw [e]; exact hc⟩

set_option maxRecDepth 100000 in
theorem checks_std {W : World} (h : laidMetH Tryz.prog Rows.monzoChecksRow.laid W) : Std W := by
  have h2 : laidMetH Tryz.prog seatLaid W := h
  rw [MakeChecks.laidMetH_plain _ _ _ (by kernel_rfl)] at h2
  exact std_of_laid h2

/-- What the walk of MonzoChecks gives. -/
def ChecksWalk : Prop := ∀ (pv xv yv : Value) (p x y : List Int) (w : World), Std w → IsRow w w.heap.size pv p → IsRow w w.heap.size xv x → IsRow w w.heap.size yv y →
  Calls Tryz.prog 3 #[pv, xv, yv] w fun e w' => e = .returned (.bool true) ∧ Below w.heap.size w w'

set_option maxRecDepth 100000 in
theorem checks_contract (walk : ChecksWalk) (H : Type) (enc : TypeId × Value → H) (W : World) (base : Nat) (args : Array Value) (ds gs : List (DataW H)) (before : List MemPlace)
    (hval : ∀ (j : Nat) t v, Tryz.f3.params[j]? = some t → args[j]? = some v → Value.okWide Tryz.prog W .any base t v)
    (hW : DataW.Whole enc Tryz.prog Tryz.f3.params.toList Rows.monzoChecksSpec.vars false W args.toList ds gs before) (hL : laidMetH Tryz.prog Rows.monzoChecksRow.laid W) :
    Calls Tryz.prog 3 args W fun e W' => ∃ v, e = .returned v ∧ Rows.monzoChecksSpec.post enc Tryz.prog Tryz.f3 false true false false W args v W' := by
  have hW' := hW
  obtain ⟨p, q, hA0, hV, rfl, hfz, hnd⟩ := hW
  have hA : DataW.TrodAll enc Tryz.prog W 0 (fun _ => true) true Tryz.f3.params.toList args.toList ds p := hA0
  rw [Tryz.params3] at hA hval
  obtain ⟨v0, vs0, d0, ds0, p0, q0, hargs, rfl, rfl, h0, r0⟩ := trodAll_cons hA
  obtain ⟨v1, vs1, d1, ds1, p1, q1, rfl, rfl, rfl, h1, r1⟩ := trodAll_cons r0
  obtain ⟨v2, vs2, d2, ds2, p2, q2, rfl, rfl, rfl, h2, r2⟩ := trodAll_cons r1
  obtain ⟨rfl, rfl, rfl⟩ := trodAll_nil r2
  obtain rfl : args = #[v0, v1, v2] := by cases args; simp_all
  obtain ⟨rfl, rfl⟩ := trodVars_none hV
  have k0 := h0
  have k1 := h1
  have k2 := h2
  have lt0 : ∀ x ∈ p0, x.block < W.heap.size := by obtain ⟨m, hm⟩ := k0; exact DataW.trod_lt m _ _ _ hm
  have lt1 : ∀ x ∈ p1, x.block < W.heap.size := by obtain ⟨m, hm⟩ := k1; exact DataW.trod_lt m _ _ _ hm
  have lt2 : ∀ x ∈ p2, x.block < W.heap.size := by obtain ⟨m, hm⟩ := k2; exact DataW.trod_lt m _ _ _ hm
  obtain ⟨a0, len0, cap0, rfl⟩ := okWide_slice Tryz.underlying23 (hval 0 23 v0 rfl rfl)
  obtain ⟨a1, len1, cap1, rfl⟩ := okWide_slice Tryz.underlying24 (hval 1 24 v1 rfl rfl)
  obtain ⟨a2, len2, cap2, rfl⟩ := okWide_slice Tryz.underlying24 (hval 2 24 v2 rfl rfl)
  obtain ⟨x0, w0⟩ := arg_row Tryz.underlying23 h0
  obtain ⟨x1, w1⟩ := arg_row Tryz.underlying24 h1
  obtain ⟨x2, w2⟩ := arg_row Tryz.underlying24 h2
  clear hA0
  refine (walk _ _ _ x0 x1 x2 W (checks_std hL) w0 w1 w2).mono fun e W' ⟨he, bel⟩ => ?_
  subst he
  exact ⟨_, rfl, _, _, _, [], _, [], hW', trodAll_mk1 (shut_bool Tryz.underlying4 _), (trodAll_cons_mk (Below.trod laidOut (by kernel_rfl) (of_decide_eq_true (by kernel_rfl)) k0 bel lt0) (trodAll_cons_mk (Below.trod laidOut (by kernel_rfl) (of_decide_eq_true (by kernel_rfl)) k1 bel lt1) (trodAll_cons_mk (Below.trod laidOut (by kernel_rfl) (of_decide_eq_true (by kernel_rfl)) k2 bel lt2) trodAll_mk0))), rfl, bel.frame _, fun h => by cases h⟩

noncomputable def checksWorld (os : Os) : World := World.laidAll Tryz.prog os seatLaid
theorem checks_met (os : Os) : laidMet Tryz.prog seatLaid ((checksWorld os).forCall (fun _ _ => 0) ⟨#[], #[.slice Option.none 0 0, .slice Option.none 0 0, .slice Option.none 0 0], []⟩).memory :=
  laidMet_laidAll _ (by kernel_rfl) (by kernel_rfl)
theorem checks_reads (os : Os) {H : Type} (enc : TypeId × Value → H) : ∃ places, DataW.whole enc Tryz.prog ((checksWorld os).forCall (fun _ _ => 0) ⟨#[], #[.slice Option.none 0 0, .slice Option.none 0 0, .slice Option.none 0 0], []⟩).memory Tryz.f3.params.toList Rows.monzoChecksSpec.vars false #[Value.slice Option.none 0 0, .slice Option.none 0 0, .slice Option.none 0 0].toList 8 = some ([.nil, .nil, .nil], [], places) :=
  ⟨[], by kernel_rfl⟩

set_option maxRecDepth 100000 in
theorem checks_lifted (walk : ChecksWalk) (os : Os) (started : os.Started) (H : Type) (enc : TypeId × Value → H) (F : Stop.Interp) :
    ReturnsInHanded {} Tryz.checked os 3 .any ((OpenSpec.ofChange Rows.monzoChecksSpec).preRow enc Tryz.prog Tryz.f3 Rows.monzoChecksRow.domain false Rows.monzoChecksRow.laid) (((OpenSpec.ofChange Rows.monzoChecksSpec).at F).post enc Tryz.prog Tryz.f3 false true false false) := by
  obtain ⟨places, hx⟩ := checks_reads os enc
  refine returnsInHanded_of_row (C := Tryz.checked) (s := OpenSpec.ofChange Rows.monzoChecksSpec) own started (by kernel_rfl) Tryz.func3
    (witness_row_at (enc := enc) (C := Tryz.checked) false (checksWorld os) #[.slice Option.none 0 0, .slice Option.none 0 0, .slice Option.none 0 0] (World.laidAll_os _ _ _) (by kernel_rfl) (by kernel_rfl) (by kernel_rfl)
      (OpenSpec.preRow_of_cond 8 hx (by kernel_rfl) (fun k hk => by cases hk) (by kernel_rfl) (checks_met os))) ?_
  intro W base args ds gs before hval hW _ _ _ hL _ _
  exact checks_contract walk H enc W base args ds gs before hval hW hL

theorem checks_said (walk : ChecksWalk) : Rows.MonzoChecksSaid :=
  OpenClaim.holds_of_cond 3 Tryz.f3 rfl rfl rfl rfl rfl rfl rfl ⟨rfl, rfl, rfl, rfl, rfl⟩ rfl rfl rfl rfl rfl (by kernel_rfl) Tryz.func3 (by kernel_rfl)
    (of_decide_eq_true (by kernel_rfl)) (by unfold Func.isWrapper; first | (rw [if_pos (by decide +kernel)]; kernel_rfl) | (rw [if_neg (by decide +kernel)]; exact ⟨rfl, rfl⟩))
    (fun os started H enc _ F => by rw [OpenClaim.pre_eq_preRow]; exact checks_lifted walk os started H enc F)

end Go.Proofs.YtkoemgemnklmdaaGreatDoor
