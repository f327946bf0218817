/- LexerTexts: the walk. -/
import Derived.Test.YtagfnnongamneaaGreatDoorGN
import Derived.Test.YtagfnnongamneaaGreatDoorGQ
import Derived.Test.YtagfnnongamneaaGreatDoorGP
import Derived.Test.YtagfnnongamneaaGreatDoorTx47G
import Derived.Test.YtagfnnongamneaaGreatDoorGT
namespace Go.Proofs.YtagfnnongamneaaGreatDoor
open Go.RowKit Go.Lib

theorem toksSame_eq : ∀ l m, toksSame false l m = toksEq l m
  | [], [] => rfl
  | [], _ :: _ => rfl
  | _ :: _, [] => rfl
  | a :: l, b :: m => by
    rw [toksSame, toksEq, toksSame_eq l m, tokSame, Bool.not_false, Bool.true_or, Bool.and_true]
theorem textTo_len {l : List Tok} (h : ∀ t ∈ l, t.text.length ≤ 60) : ∀ k, (textTo l k).length ≤ 61 * k
  | 0 => Nat.le_refl _
  | k + 1 => by
    have ih := textTo_len h k
    rw [textTo, List.length_append, List.length_append]
    have h1 : ((l[k]?.map (·.text)).getD []).length ≤ 60 := by
      cases hk : l[k]? with
      | none => simp
      | some t => exact h t (List.mem_of_getElem? hk)
    have h2 : (if 0 < k ∧ (l[k]?.map (·.kind)).getD 0 ≠ 6 ∧ (l[k - 1]?.map (·.kind)).getD 0 ≠ 6 then [32] else ([] : List UInt8)).length ≤ 1 := by split <;> simp
    omega

set_option maxRecDepth 100000 in
set_option maxHeartbeats 4000000 in
theorem lxTxt_many (v : Value) (l : List Tok) (w : World) (hS : Std w) (hL : LenIs w) (hv : IsToks w w.heap.size v l) (h12 : 12 < l.length) :
    Calls Tryz.prog 5 #[v] w fun e w' => e = .returned (.bool true) ∧ Below w.heap.size w w' := by
  have HK := Lib.hid (fun W h1 h2 => known47 W h1 h2)
  have HS := Lib.hid hS
  have HLI : Hid (LenIs w) := Lib.hid hL
  have HV := Lib.hid hv
  have hni : 12 < (l.length : Int) := by omega
  clear h12
  obtain ⟨AX, cx, _, rfl, _⟩ := hv
  clear hS hL
  go_enter Tryz.func5, Tryz.ntmps5
  go_wp2_with fail
  refine (HK.out _ HS.out HLI.out).mono ?_
  rintro e w1 ⟨rfl, hbw⟩
  go_wp2_with fail
  refine (HK.out _ (HS.out.below hbw (Nat.le_refl _)) (HLI.out.below hbw)).mono ?_
  rintro e w2 ⟨rfl, hb⟩
  replace hbw := hbw.trans (hb.mono hbw.size)
  clear hb
  go_wp2_with fail
  go_ret
  exact ⟨rfl, hbw⟩

set_option maxRecDepth 100000 in
set_option maxHeartbeats 4000000 in
theorem lxTxt_not (v : Value) (l : List Tok) (w : World) (hS : Std w) (hL : LenIs w) (hv : IsToks w w.heap.size v l) (h12 : l.length ≤ 12) (hsh : shortB l = false) :
    Calls Tryz.prog 5 #[v] w fun e w' => e = .returned (.bool true) ∧ Below w.heap.size w w' := by
  have HK := Lib.hid (fun W h1 h2 => known47 W h1 h2)
  have HS := Lib.hid hS
  have HLI : Hid (LenIs w) := Lib.hid hL
  have HV := Lib.hid hv
  have hni : (l.length : Int) ≤ 12 := by omega
  have HSH := Lib.hid (fun W h => short_any v l W h)
  rw [hsh] at HSH
  clear h12 hsh
  obtain ⟨AX, cx, _, rfl, _⟩ := hv
  clear hS hL
  go_enter Tryz.func5, Tryz.ntmps5
  go_wp2_with fail
  refine (HK.out _ HS.out HLI.out).mono ?_
  rintro e w1 ⟨rfl, hbw⟩
  go_wp2_with fail
  refine (HSH.out _ (HV.out.lift hbw)).mono ?_
  rintro e w9 ⟨rfl, hb⟩
  replace hbw := hbw.trans (hb.mono hbw.size)
  clear hb
  go_wp2_with fail
  refine (HK.out _ (HS.out.below hbw (Nat.le_refl _)) (HLI.out.below hbw)).mono ?_
  rintro e w2 ⟨rfl, hb⟩
  replace hbw := hbw.trans (hb.mono hbw.size)
  clear hb
  go_wp2_with fail
  go_ret
  exact ⟨rfl, hbw⟩

set_option maxRecDepth 100000 in
set_option maxHeartbeats 4000000 in
theorem lxTxt_bad (v : Value) (l : List Tok) (w : World) (hS : Std w) (hL : LenIs w) (hv : IsToks w w.heap.size v l) (h12 : l.length ≤ 12) (hsh : shortB l = true) (la ca er : Int) (hg : scanRead (textTo l l.length) = .bad la ca er) :
    Calls Tryz.prog 5 #[v] w fun e w' => e = .returned (.bool true) ∧ Below w.heap.size w w' := by
  have HK := Lib.hid (fun W h1 h2 => known47 W h1 h2)
  have HS := Lib.hid hS
  have HLI : Hid (LenIs w) := Lib.hid hL
  have HV := Lib.hid hv
  have hni : (l.length : Int) ≤ 12 := by omega
  have HSH := Lib.hid (fun W h => short_any v l W h)
  rw [hsh] at HSH
  have hbd : ∀ k, k ≤ l.length → (textTo l k).length ≤ 100000 := fun k hk => by
    have := textTo_len (fun t ht => (shortB_all hsh t ht).1) k
    omega
  have HT := Lib.hid (fun W h1 h2 h3 => text_any47 v l W h1 h2 h3 (by omega) hbd)
  have HM := Lib.hid (fun W h3 => tx47_any v l W h3 (by omega) hbd)
  have HSC := Lib.hid (fun W h1 h2 => scan47_any (textTo l l.length) W h1 h2 (hbd _ (Nat.le_refl _)))
  rw [hg] at HT HSC
  rw [show textOut l (.bad la ca er) = .tuple #[.string ⟨#[]⟩, .int .i64 7] from rfl] at HT
  have her : (er != 0) = true := by have := scanRead_bad hg; simpa using this
  clear hg
  clear h12 hsh hbd
  generalize textTo l l.length = tx at *
  obtain ⟨AX, cx, _, rfl, _⟩ := hv
  clear hS hL
  go_enter Tryz.func5, Tryz.ntmps5
  go_wp2_with fail
  refine (HK.out _ HS.out HLI.out).mono ?_
  rintro e w1 ⟨rfl, hbw⟩
  go_wp2_with fail
  refine (HSH.out _ (HV.out.lift hbw)).mono ?_
  rintro e w9 ⟨rfl, hb⟩
  replace hbw := hbw.trans (hb.mono hbw.size)
  clear hb
  go_wp2_with fail
  refine (HT.out _ (HS.out.below hbw (Nat.le_refl _)) (HLI.out.below hbw) (HV.out.lift hbw)).mono ?_
  rintro e w2 ⟨rfl, hb⟩
  replace hbw := hbw.trans (hb.mono hbw.size)
  clear hb
  go_wp2_with fail
  refine (HM.out _ (HV.out.lift hbw)).mono ?_
  rintro e w3 ⟨rfl, hb⟩
  replace hbw := hbw.trans (hb.mono hbw.size)
  clear hb
  go_wp2_with fail
  refine (HSC.out _ (HS.out.below hbw (Nat.le_refl _)) (HLI.out.below hbw)).mono ?_
  rintro e w4 ⟨he, hb⟩
  obtain rfl : e = .returned (.tuple #[.slice Option.none 0 0, .agg #[.int .i64 la, .int .i64 ca], .int .i64 er]) := he
  replace hbw := hbw.trans (hb.mono hbw.size)
  clear hb
  go_wp2_with fail
  go_ret
  exact ⟨rfl, hbw.alloc hbw.size _⟩

set_option maxRecDepth 100000 in
set_option maxHeartbeats 4000000 in
theorem lxTxt_good (v : Value) (l : List Tok) (w : World) (hS : Std w) (hL : LenIs w) (hv : IsToks w w.heap.size v l) (h12 : l.length ≤ 12) (hsh : shortB l = true) (own : List Tok) (hg : scanRead (textTo l l.length) = .good own) (hq : toksEq own l = true) :
    Calls Tryz.prog 5 #[v] w fun e w' => e = .returned (.bool true) ∧ Below w.heap.size w w' := by
  have HK := Lib.hid (fun W h1 h2 => known47 W h1 h2)
  have HS := Lib.hid hS
  have HLI : Hid (LenIs w) := Lib.hid hL
  have HV := Lib.hid hv
  have hni : (l.length : Int) ≤ 12 := by omega
  have HSH := Lib.hid (fun W h => short_any v l W h)
  rw [hsh] at HSH
  have hbd : ∀ k, k ≤ l.length → (textTo l k).length ≤ 100000 := fun k hk => by
    have := textTo_len (fun t ht => (shortB_all hsh t ht).1) k
    omega
  have HT := Lib.hid (fun W h1 h2 h3 => text_any47 v l W h1 h2 h3 (by omega) hbd)
  have HM := Lib.hid (fun W h3 => tx47_any v l W h3 (by omega) hbd)
  have HSC := Lib.hid (fun W h1 h2 => scan47_any (textTo l l.length) W h1 h2 (hbd _ (Nat.le_refl _)))
  rw [hg] at HT HSC
  rw [show textOut l (.good own) = .tuple #[.string ⟨(textTo l l.length).toArray⟩, .int .i64 0] by show (if toksEq own l = true then _ else _) = _; rw [hq]; rfl] at HT
  have HSM : Box (toksSame false own l = true) := ⟨by rw [toksSame_eq, hq]⟩
  clear hg hq
  clear h12 hsh hbd
  generalize textTo l l.length = tx at *
  obtain ⟨AX, cx, _, rfl, _⟩ := hv
  clear hS hL
  go_enter Tryz.func5, Tryz.ntmps5
  go_wp2_with fail
  refine (HK.out _ HS.out HLI.out).mono ?_
  rintro e w1 ⟨rfl, hbw⟩
  go_wp2_with fail
  refine (HSH.out _ (HV.out.lift hbw)).mono ?_
  rintro e w9 ⟨rfl, hb⟩
  replace hbw := hbw.trans (hb.mono hbw.size)
  clear hb
  go_wp2_with fail
  refine (HT.out _ (HS.out.below hbw (Nat.le_refl _)) (HLI.out.below hbw) (HV.out.lift hbw)).mono ?_
  rintro e w2 ⟨rfl, hb⟩
  replace hbw := hbw.trans (hb.mono hbw.size)
  clear hb
  go_wp2_with fail
  refine (HM.out _ (HV.out.lift hbw)).mono ?_
  rintro e w3 ⟨rfl, hb⟩
  replace hbw := hbw.trans (hb.mono hbw.size)
  clear hb
  go_wp2_with fail
  refine (HSC.out _ (HS.out.below hbw (Nat.le_refl _)) (HLI.out.below hbw)).mono ?_
  rintro e w4 ⟨⟨AM, cm, rfl, htm⟩, hb⟩
  replace hbw := hbw.trans (hb.mono hbw.size)
  have hba : Below w4.heap.size w4 (w4.alloc (.cells #[.int .i64 0, .int .i64 0] 25)) := (Below.refl _ _).alloc (Nat.le_refl _) _
  replace hbw := hbw.trans (hba.mono hbw.size)
  have HSA := Lib.hid (same_any47 _ _ own l false _ (htm.lift hba) (HV.out.lift hbw))
  rw [HSM.out] at HSA
  clear hb hba htm
  have HBW := Lib.hid hbw
  clear hbw
  go_wp2_with fail
  refine HSA.out.mono ?_
  rintro e w5 ⟨rfl, hb⟩
  have hbw := HBW.out.trans (hb.mono HBW.out.size)
  clear hb HBW
  go_wp2_with fail
  go_ret
  exact ⟨rfl, hbw⟩

set_option maxRecDepth 100000 in
set_option maxHeartbeats 4000000 in
theorem lxTxt_diff (v : Value) (l : List Tok) (w : World) (hS : Std w) (hL : LenIs w) (hv : IsToks w w.heap.size v l) (h12 : l.length ≤ 12) (hsh : shortB l = true) (own : List Tok) (hg : scanRead (textTo l l.length) = .good own) (hq : toksEq own l = false) :
    Calls Tryz.prog 5 #[v] w fun e w' => e = .returned (.bool true) ∧ Below w.heap.size w w' := by
  have HK := Lib.hid (fun W h1 h2 => known47 W h1 h2)
  have HS := Lib.hid hS
  have HLI : Hid (LenIs w) := Lib.hid hL
  have HV := Lib.hid hv
  have hni : (l.length : Int) ≤ 12 := by omega
  have HSH := Lib.hid (fun W h => short_any v l W h)
  rw [hsh] at HSH
  have hbd : ∀ k, k ≤ l.length → (textTo l k).length ≤ 100000 := fun k hk => by
    have := textTo_len (fun t ht => (shortB_all hsh t ht).1) k
    omega
  have HT := Lib.hid (fun W h1 h2 h3 => text_any47 v l W h1 h2 h3 (by omega) hbd)
  have HM := Lib.hid (fun W h3 => tx47_any v l W h3 (by omega) hbd)
  have HSC := Lib.hid (fun W h1 h2 => scan47_any (textTo l l.length) W h1 h2 (hbd _ (Nat.le_refl _)))
  rw [hg] at HT HSC
  rw [show textOut l (.good own) = .tuple #[.string ⟨#[]⟩, .int .i64 7] by show (if toksEq own l = true then _ else _) = _; rw [hq]; rfl] at HT
  have HSM : Box (toksSame false own l = false) := ⟨by rw [toksSame_eq, hq]⟩
  clear hg hq
  clear h12 hsh hbd
  generalize textTo l l.length = tx at *
  obtain ⟨AX, cx, _, rfl, _⟩ := hv
  clear hS hL
  go_enter Tryz.func5, Tryz.ntmps5
  go_wp2_with fail
  refine (HK.out _ HS.out HLI.out).mono ?_
  rintro e w1 ⟨rfl, hbw⟩
  go_wp2_with fail
  refine (HSH.out _ (HV.out.lift hbw)).mono ?_
  rintro e w9 ⟨rfl, hb⟩
  replace hbw := hbw.trans (hb.mono hbw.size)
  clear hb
  go_wp2_with fail
  refine (HT.out _ (HS.out.below hbw (Nat.le_refl _)) (HLI.out.below hbw) (HV.out.lift hbw)).mono ?_
  rintro e w2 ⟨rfl, hb⟩
  replace hbw := hbw.trans (hb.mono hbw.size)
  clear hb
  go_wp2_with fail
  refine (HM.out _ (HV.out.lift hbw)).mono ?_
  rintro e w3 ⟨rfl, hb⟩
  replace hbw := hbw.trans (hb.mono hbw.size)
  clear hb
  go_wp2_with fail
  refine (HSC.out _ (HS.out.below hbw (Nat.le_refl _)) (HLI.out.below hbw)).mono ?_
  rintro e w4 ⟨⟨AM, cm, rfl, htm⟩, hb⟩
  replace hbw := hbw.trans (hb.mono hbw.size)
  have hba : Below w4.heap.size w4 (w4.alloc (.cells #[.int .i64 0, .int .i64 0] 25)) := (Below.refl _ _).alloc (Nat.le_refl _) _
  replace hbw := hbw.trans (hba.mono hbw.size)
  have HSA := Lib.hid (same_any47 _ _ own l false _ (htm.lift hba) (HV.out.lift hbw))
  rw [HSM.out] at HSA
  clear hb hba htm
  have HBW := Lib.hid hbw
  clear hbw
  go_wp2_with fail
  refine HSA.out.mono ?_
  rintro e w5 ⟨rfl, hb⟩
  have hbw := HBW.out.trans (hb.mono HBW.out.size)
  clear hb HBW
  go_wp2_with fail
  go_ret
  exact ⟨rfl, hbw⟩

theorem lxTxt_walk (v0 : Value) (l0 : List Tok) (w : World) (hS : Std w) (hL : ∃ m, w.cell? ⟨0, 0, Option.none⟩ = some (.int .i64 m)) (h0 : IsToks w w.heap.size v0 l0) (_f0 : ∀ t ∈ l0, t.Fits) :
    Calls Tryz.prog 5 #[v0] w fun e w' => e = .returned (.bool true) ∧ Below w.heap.size w w' := by
  by_cases h12 : 12 < l0.length
  · exact lxTxt_many v0 l0 w hS hL h0 h12
  · cases hsh : shortB l0 with
    | false => exact lxTxt_not v0 l0 w hS hL h0 (by omega) hsh
    | true =>
      cases hg : scanRead (textTo l0 l0.length) with
      | bad la ca er => exact lxTxt_bad v0 l0 w hS hL h0 (by omega) hsh la ca er hg
      | good own =>
        cases hq : toksEq own l0 with
        | true => exact lxTxt_good v0 l0 w hS hL h0 (by omega) hsh own hg hq
        | false => exact lxTxt_diff v0 l0 w hS hL h0 (by omega) hsh own hg hq

end Go.Proofs.YtagfnnongamneaaGreatDoor
