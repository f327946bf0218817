/- LexerStreams: the walk of the calls that the law passes over, and all of it. -/
import Derived.Test.YtjgpjhaeoiddbaaGreatDoorLxStMG
import Derived.Test.YtjgpjhaeoiddbaaGreatDoorGP
namespace Go.Proofs.YtjgpjhaeoiddbaaGreatDoor
open Go.RowKit Go.Lib

set_option maxRecDepth 100000 in
set_option maxHeartbeats 4000000 in
theorem lxSt_many (v vc : Value) (l : List Tok) (cs : List SCall) (w : World) (hS : Std w) (hL : LenIs w) (hv : IsToks w w.heap.size v l) (hc : IsCalls w w.heap.size vc cs) (h10 : 10 < l.length) :
    Calls Tryz.prog 3 #[v, vc] w fun e w' => e = .returned (.bool true) ∧ Below w.heap.size w w' := by
  have HK := Lib.hid (fun W h1 h2 => known47 W h1 h2)
  have HS := Lib.hid hS
  have HLI : Hid (LenIs w) := Lib.hid hL
  have hni : 10 < (l.length : Int) := by omega
  clear h10
  obtain ⟨AX, cx, _, rfl, _⟩ := hv
  obtain ⟨AC, cc, rfl, _⟩ := hc
  clear hS hL
  go_enter Tryz.func3, Tryz.ntmps3
  go_wp2_with fail
  refine (HK.out _ HS.out HLI.out).mono ?_
  rintro e w1 ⟨rfl, hbw⟩
  go_wp2_with fail
  refine (HK.out _ (HS.out.below hbw (Nat.le_refl _)) (HLI.out.below hbw)).mono ?_
  rintro e w2 ⟨rfl, hb⟩
  replace hbw := hbw.trans (hb.mono hbw.size)
  clear hb
  go_wp2_with fail
  go_ret
  exact ⟨rfl, hbw⟩

set_option maxRecDepth 100000 in
set_option maxHeartbeats 4000000 in
theorem lxSt_not (v vc : Value) (l : List Tok) (cs : List SCall) (w : World) (hS : Std w) (hL : LenIs w) (hv : IsToks w w.heap.size v l) (hc : IsCalls w w.heap.size vc cs) (h10 : l.length ≤ 10) (hsh : shortB l = false) :
    Calls Tryz.prog 3 #[v, vc] w fun e w' => e = .returned (.bool true) ∧ Below w.heap.size w w' := by
  have HK := Lib.hid (fun W h1 h2 => known47 W h1 h2)
  have HS := Lib.hid hS
  have HLI : Hid (LenIs w) := Lib.hid hL
  have HV := Lib.hid hv
  have hni : (l.length : Int) ≤ 10 := by omega
  have HSH := Lib.hid (fun W h => short_any v l W h)
  rw [hsh] at HSH
  clear h10 hsh
  obtain ⟨AX, cx, _, rfl, _⟩ := hv
  obtain ⟨AC, cc, rfl, _⟩ := hc
  clear hS hL
  go_enter Tryz.func3, Tryz.ntmps3
  go_wp2_with fail
  refine (HK.out _ HS.out HLI.out).mono ?_
  rintro e w1 ⟨rfl, hbw⟩
  go_wp2_with fail
  refine (HSH.out _ (HV.out.lift hbw)).mono ?_
  rintro e w9 ⟨rfl, hb⟩
  replace hbw := hbw.trans (hb.mono hbw.size)
  clear hb
  go_wp2_with fail
  refine (HK.out _ (HS.out.below hbw (Nat.le_refl _)) (HLI.out.below hbw)).mono ?_
  rintro e w2 ⟨rfl, hb⟩
  replace hbw := hbw.trans (hb.mono hbw.size)
  clear hb
  go_wp2_with fail
  go_ret
  exact ⟨rfl, hbw⟩

set_option maxRecDepth 100000 in
set_option maxHeartbeats 4000000 in
theorem lxSt_calls (v vc : Value) (l : List Tok) (cs : List SCall) (w : World) (hS : Std w) (hL : LenIs w) (hv : IsToks w w.heap.size v l) (hc : IsCalls w w.heap.size vc cs) (h10 : l.length ≤ 10) (hsh : shortB l = true) (h16 : 16 < cs.length) :
    Calls Tryz.prog 3 #[v, vc] w fun e w' => e = .returned (.bool true) ∧ Below w.heap.size w w' := by
  have HK := Lib.hid (fun W h1 h2 => known47 W h1 h2)
  have HS := Lib.hid hS
  have HLI : Hid (LenIs w) := Lib.hid hL
  have HV := Lib.hid hv
  have hni : (l.length : Int) ≤ 10 := by omega
  have hci : 16 < (cs.length : Int) := by omega
  have HSH := Lib.hid (fun W h => short_any v l W h)
  rw [hsh] at HSH
  clear h10 hsh h16
  obtain ⟨AX, cx, _, rfl, _⟩ := hv
  obtain ⟨AC, cc, rfl, _⟩ := hc
  clear hS hL
  go_enter Tryz.func3, Tryz.ntmps3
  go_wp2_with fail
  refine (HK.out _ HS.out HLI.out).mono ?_
  rintro e w1 ⟨rfl, hbw⟩
  go_wp2_with fail
  refine (HSH.out _ (HV.out.lift hbw)).mono ?_
  rintro e w9 ⟨rfl, hb⟩
  replace hbw := hbw.trans (hb.mono hbw.size)
  clear hb
  go_wp2_with fail
  refine (HK.out _ (HS.out.below hbw (Nat.le_refl _)) (HLI.out.below hbw)).mono ?_
  rintro e w2 ⟨rfl, hb⟩
  replace hbw := hbw.trans (hb.mono hbw.size)
  clear hb
  go_wp2_with fail
  go_ret
  exact ⟨rfl, hbw⟩

theorem lxSt_walk (v0 : Value) (l0 : List Tok) (v1 : Value) (l1 : List SCall) (w : World) (hS : Std w) (hL : ∃ m, w.cell? ⟨0, 0, Option.none⟩ = some (.int .i64 m)) (h0 : IsToks w w.heap.size v0 l0) (_f0 : ∀ t ∈ l0, t.Fits) (h1 : IsCalls w w.heap.size v1 l1) (f1 : ∀ c ∈ l1, c.Fits) :
    Calls Tryz.prog 3 #[v0, v1] w fun e w' => e = .returned (.bool true) ∧ Below w.heap.size w w' := by
  by_cases h10 : 10 < l0.length
  · exact lxSt_many v0 v1 l0 l1 w hS hL h0 h1 h10
  · cases hsh : shortB l0 with
    | false => exact lxSt_not v0 v1 l0 l1 w hS hL h0 h1 (by omega) hsh
    | true =>
      by_cases h16 : 16 < l1.length
      · exact lxSt_calls v0 v1 l0 l1 w hS hL h0 h1 (by omega) hsh h16
      · exact lxSt_main v0 v1 l0 l1 w hS hL h0 h1 f1 (by omega) hsh (by omega)

end Go.Proofs.YtjgpjhaeoiddbaaGreatDoor
