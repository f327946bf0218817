/- LexerScans: the walk. -/
import Derived.Test.YtagfnnongamneaaGreatDoorGN
import Derived.Test.YtagfnnongamneaaGreatDoorGQ
import Derived.Test.YtagfnnongamneaaGreatDoorLxEqG
import Derived.Test.YtagfnnongamneaaGreatDoorGT
namespace Go.Proofs.YtagfnnongamneaaGreatDoor
open Go.RowKit Go.Lib

theorem toksSame_refl (pl : Bool) : ∀ l, toksSame pl l l = true
  | [] => rfl
  | a :: l => by
    rw [toksSame, toksSame_refl pl l, tokSame, tokEq_refl]
    simp

set_option maxRecDepth 100000 in
set_option maxHeartbeats 4000000 in
theorem lxScn_bad (s : List UInt8) (w : World) (hS : Std w) (hL : LenIs w) (hs : s.length ≤ 400) (la ca er : Int) (hg : scanRead s = .bad la ca er) :
    Calls Tryz.prog 3 #[.string ⟨s.toArray⟩] w fun e w' => e = .returned (.bool true) ∧ Below w.heap.size w w' := by
  have HK := Lib.hid (known47 w hS hL)
  have HS := Lib.hid hS
  have HLI : Hid (LenIs w) := Lib.hid hL
  have HS1 := Lib.hid (fun W hW hLW => scan_any s W hW hLW (by omega))
  have HS2 := Lib.hid (fun W hW hLW => scan47_any s W hW hLW (by omega))
  rw [hg] at HS1 HS2
  have hsi : (s.length : Int) ≤ 400 := by omega
  clear hS hL hg
  go_enter Tryz.func3, Tryz.ntmps3
  go_wp2_with fail
  refine HK.out.mono ?_
  rintro e w1 ⟨rfl, hbw⟩
  clear HK
  go_wp2_with fail
  refine (HS1.out _ (HS.out.below hbw (Nat.le_refl _)) (HLI.out.below hbw)).mono ?_
  rintro e w2 ⟨he, hb⟩
  obtain rfl : e = .returned (.tuple #[.slice Option.none 0 0, .agg #[.int .i64 la, .int .i64 ca], .int .i64 er]) := he
  replace hbw := hbw.trans (hb.mono hbw.size)
  clear hb HS1
  have C1 := Cells.new w2 25 #[.int .i64 la, .int .i64 ca]
  replace hbw := hbw.alloc hbw.size (.cells #[.int .i64 la, .int .i64 ca] 25)
  have HBW := Lib.hid hbw
  clear hbw
  go_wp2_with fail
  refine (HS2.out _ (HS.out.below HBW.out (Nat.le_refl _)) (HLI.out.below HBW.out)).mono ?_
  rintro e w3 ⟨he, hb⟩
  obtain rfl : e = .returned (.tuple #[.slice Option.none 0 0, .agg #[.int .i64 la, .int .i64 ca], .int .i64 er]) := he
  have r0 : (w3.alloc (.cells #[.int .i64 la, .int .i64 ca] 25)).cell? ⟨w2.heap.size, 0, Option.none⟩ = some (.int .i64 la) := ((C1.below hb C1.lt).alloc _).cell 0
  have r1 : (w3.alloc (.cells #[.int .i64 la, .int .i64 ca] 25)).cell? ⟨w2.heap.size, 1, Option.none⟩ = some (.int .i64 ca) := ((C1.below hb C1.lt).alloc _).cell 1
  have n0 : (w3.alloc (.cells #[.int .i64 la, .int .i64 ca] 25)).cell? ⟨w3.heap.size, 0, Option.none⟩ = some (.int .i64 la) := (Cells.new w3 _ _).cell 0
  have n1 : (w3.alloc (.cells #[.int .i64 la, .int .i64 ca] 25)).cell? ⟨w3.heap.size, 1, Option.none⟩ = some (.int .i64 ca) := (Cells.new w3 _ _).cell 1
  have hbw := HBW.out.trans (hb.mono HBW.out.size)
  clear C1 hb HBW HS2
  replace hbw := hbw.alloc hbw.size (.cells #[.int .i64 la, .int .i64 ca] 25)
  have HBW := Lib.hid hbw
  clear hbw
  have HSA := Lib.hid (fun W => same_any47 _ _ [] [] true W ((Toks.nil W 0).isToks) ((Toks.nil W 0).isToks))
  go_wp2_with fail
  refine (HSA.out _).mono ?_
  rintro e w4 ⟨rfl, hb⟩
  have hbw := HBW.out.trans (hb.mono HBW.out.size)
  clear hb HBW HSA
  go_wp2_with fail
  go_ret
  exact ⟨rfl, hbw⟩

set_option maxRecDepth 100000 in
set_option maxHeartbeats 4000000 in
theorem lxScn_good (s : List UInt8) (w : World) (hS : Std w) (hL : LenIs w) (hs : s.length ≤ 400) (l : List Tok) (hg : scanRead s = .good l) :
    Calls Tryz.prog 3 #[.string ⟨s.toArray⟩] w fun e w' => e = .returned (.bool true) ∧ Below w.heap.size w w' := by
  have HK := Lib.hid (known47 w hS hL)
  have HS := Lib.hid hS
  have HLI : Hid (LenIs w) := Lib.hid hL
  have HS1 := Lib.hid (fun W hW hLW => scan_any s W hW hLW (by omega))
  have HS2 := Lib.hid (fun W hW hLW => scan47_any s W hW hLW (by omega))
  rw [hg] at HS1 HS2
  have hsi : (s.length : Int) ≤ 400 := by omega
  clear hS hL hg
  go_enter Tryz.func3, Tryz.ntmps3
  go_wp2_with fail
  refine HK.out.mono ?_
  rintro e w1 ⟨rfl, hbw⟩
  clear HK
  go_wp2_with fail
  refine (HS1.out _ (HS.out.below hbw (Nat.le_refl _)) (HLI.out.below hbw)).mono ?_
  rintro e w2 ⟨⟨A1, c1, rfl, ht⟩, hb⟩
  have HT1 := Lib.hid (ht.lift ((Below.refl _ _).alloc (Nat.le_refl _) (.cells #[.int .i64 0, .int .i64 0] 25)))
  replace hbw := hbw.trans (hb.mono hbw.size)
  clear hb HS1 ht
  have C1 := Cells.new w2 25 #[.int .i64 0, .int .i64 0]
  replace hbw := hbw.alloc hbw.size (.cells #[.int .i64 0, .int .i64 0] 25)
  have HBW := Lib.hid hbw
  clear hbw
  go_wp2_with fail
  refine (HS2.out _ (HS.out.below HBW.out (Nat.le_refl _)) (HLI.out.below HBW.out)).mono ?_
  rintro e w3 ⟨⟨A2, c2, rfl, ht⟩, hb⟩
  have hba : Below w3.heap.size w3 (w3.alloc (.cells #[.int .i64 0, .int .i64 0] 25)) := (Below.refl _ _).alloc (Nat.le_refl _) _
  have HSA := Lib.hid (same_any47 _ _ l l true _ ((HT1.out.lift hb).lift hba) (ht.lift hba))
  rw [toksSame_refl] at HSA
  have r0 : (w3.alloc (.cells #[.int .i64 0, .int .i64 0] 25)).cell? ⟨w2.heap.size, 0, Option.none⟩ = some (.int .i64 0) := ((C1.below hb C1.lt).alloc _).cell 0
  have r1 : (w3.alloc (.cells #[.int .i64 0, .int .i64 0] 25)).cell? ⟨w2.heap.size, 1, Option.none⟩ = some (.int .i64 0) := ((C1.below hb C1.lt).alloc _).cell 1
  have n0 : (w3.alloc (.cells #[.int .i64 0, .int .i64 0] 25)).cell? ⟨w3.heap.size, 0, Option.none⟩ = some (.int .i64 0) := (Cells.new w3 _ _).cell 0
  have n1 : (w3.alloc (.cells #[.int .i64 0, .int .i64 0] 25)).cell? ⟨w3.heap.size, 1, Option.none⟩ = some (.int .i64 0) := (Cells.new w3 _ _).cell 1
  have hbw := HBW.out.trans (hb.mono HBW.out.size)
  clear C1 hb HBW HS2 HT1 ht hba
  replace hbw := hbw.alloc hbw.size (.cells #[.int .i64 0, .int .i64 0] 25)
  have HBW := Lib.hid hbw
  clear hbw
  go_wp2_with fail
  refine HSA.out.mono ?_
  rintro e w4 ⟨rfl, hb⟩
  have hbw := HBW.out.trans (hb.mono HBW.out.size)
  clear hb HBW HSA
  go_wp2_with fail
  go_ret
  exact ⟨rfl, hbw⟩

set_option maxRecDepth 100000 in
set_option maxHeartbeats 4000000 in
theorem lxScn_long (s : List UInt8) (w : World) (hS : Std w) (hL : LenIs w) (hs : 400 < s.length) :
    Calls Tryz.prog 3 #[.string ⟨s.toArray⟩] w fun e w' => e = .returned (.bool true) ∧ Below w.heap.size w w' := by
  have HK := Lib.hid (fun W h1 h2 => known47 W h1 h2)
  have HS := Lib.hid hS
  have HLI : Hid (LenIs w) := Lib.hid hL
  have hsi : 400 < (s.length : Int) := by omega
  clear hS hL
  go_enter Tryz.func3, Tryz.ntmps3
  go_wp2_with fail
  refine (HK.out _ HS.out HLI.out).mono ?_
  rintro e w1 ⟨rfl, hbw⟩
  go_wp2_with fail
  refine (HK.out _ (HS.out.below hbw (Nat.le_refl _)) (HLI.out.below hbw)).mono ?_
  rintro e w2 ⟨rfl, hb⟩
  replace hbw := hbw.trans (hb.mono hbw.size)
  clear hb
  go_wp2_with fail
  go_ret
  exact ⟨rfl, hbw⟩

theorem lxScn_walk (s : List UInt8) (w : World) (hS : Std w) (hL : ∃ m, w.cell? ⟨0, 0, Option.none⟩ = some (.int .i64 m)) (_h0 : s.length ≤ maxLen) :
    Calls Tryz.prog 3 #[.string ⟨s.toArray⟩] w fun e w' => e = .returned (.bool true) ∧ Below w.heap.size w w' := by
  by_cases h : 400 < s.length
  · exact lxScn_long s w hS hL h
  · cases hg : scanRead s with
    | bad la ca er => exact lxScn_bad s w hS hL (by omega) la ca er hg
    | good l => exact lxScn_good s w hS hL (by omega) l hg

end Go.Proofs.YtagfnnongamneaaGreatDoor
