import Derived.Test.YtaaeekahhhookaaGreatDoorUckCk
import Derived.Test.YtaaeekahhhookaaGreatDoorGXFMCk
import Derived.Test.YtaaeekahhhookaaGreatDoorGXTCk
import Derived.Test.YtaaeekahhhookaaGreatDoorGXLCk
import Derived.Test.YtaaeekahhhookaaGreatDoorGXDMCk
import Derived.Test.YtaaeekahhhookaaGreatDoorGGMCk
import Derived.Test.YtaaeekahhhookaaGreatDoorMk48MCk
import Derived.Test.YtaaeekahhhookaaGreatDoorGRMCk
namespace Go.Proofs.YtaaeekahhhookaaGreatDoor
open Go.RowKit Go.Lib
set_option maxRecDepth 100000 in
set_option maxHeartbeats 8000000 in
theorem scStartsU_err (pv vv : Value) (s : Sc) (i : Int) (w : World) (hS : Std w) (h : ScU w pv vv s) (hm : ScSm s) (he : scErr s ≠ 0) :
  Calls Tryz.prog 21 #[.agg #[pv, vv], .int .i64 i] w fun e w' => e = .returned (.tuple #[.slice Option.none 0 0, .int .i64 (scErr s)]) ∧ Below w.heap.size w w' := by
 have hba : Below w.heap.size w (w.alloc (.cells #[pv, vv] 29)) := (Below.refl _ _).alloc (Nat.le_refl _) _
 have HC := Lib.hid (scCheckU pv vv s _ (hS.below hba (Nat.le_refl _)) (h.lift hba) hm)
 have HBA := Lib.hid hba
 have heb : (scErr s != 0) = true := by rw [bne_iff_ne]; exact he
 obtain ⟨hp, A, c, rfl, _⟩ := h
 obtain ⟨AP, cp, rfl, _⟩ := hp.shape
 generalize scErr s = q at *
 clear hS hp hm he hba
 go_enter Tryz.func21, Tryz.ntmps21
 go_wp2_with fail
 refine HC.out.mono ?_
 rintro e w1 ⟨rfl, hb1⟩
 have HB1 := Lib.hid (HBA.out.trans (hb1.mono HBA.out.size))
 clear hb1
 go_wp2_with fail
 go_ret2
 exact ⟨rfl, HB1.out⟩
set_option maxRecDepth 100000 in
set_option maxHeartbeats 8000000 in
theorem scAtU_err (pv vv : Value) (s : Sc) (t u : List UInt8) (w : World) (hS : Std w) (h : ScU w pv vv s) (hm : ScSm s) (he : scErr s ≠ 0) :
  Calls Tryz.prog 23 #[.agg #[pv, vv], .agg #[.string ⟨t.toArray⟩, .string ⟨u.toArray⟩]] w fun e w' => e = .returned (.tuple #[.slice Option.none 0 0, .int .i64 (scErr s)]) ∧ Below w.heap.size w w' := by
 have hba : Below w.heap.size w ((w.alloc (.cells #[pv, vv] 29)).alloc (.cells #[.string ⟨t.toArray⟩, .string ⟨u.toArray⟩] 51)) := ((Below.refl _ _).alloc (Nat.le_refl _) _).alloc (by simp) _
 have HC := Lib.hid (scCheckU pv vv s _ (hS.below hba (Nat.le_refl _)) (h.lift hba) hm)
 have HBA := Lib.hid hba
 have heb : (scErr s != 0) = true := by rw [bne_iff_ne]; exact he
 obtain ⟨hp, A, c, rfl, _⟩ := h
 obtain ⟨AP, cp, rfl, _⟩ := hp.shape
 generalize scErr s = q at *
 clear hS hp hm he hba
 go_enter Tryz.func23, Tryz.ntmps23
 go_wp2_with fail
 refine HC.out.mono ?_
 rintro e w1 ⟨rfl, hb1⟩
 have HB1 := Lib.hid (HBA.out.trans (hb1.mono HBA.out.size))
 clear hb1
 go_wp2_with fail
 go_ret2
 exact ⟨rfl, HB1.out⟩
set_option maxRecDepth 100000 in
set_option maxHeartbeats 2000000 in
theorem scLengthU_err (pv vv : Value) (s : Sc) (w : World) (hS : Std w) (h : ScU w pv vv s) (hm : ScSm s) (he : scErr s ≠ 0) :
  Calls Tryz.prog 22 #[.agg #[pv, vv]] w fun e w' => e = .returned (.tuple #[.agg #[.string ⟨#[]⟩, .string ⟨#[]⟩], .int .i64 (scErr s)]) ∧ Below w.heap.size w w' := by
 have hba : Below w.heap.size w ((w.alloc (.cells #[pv, vv] 29)).alloc (.cells #[.string ⟨#[]⟩, .string ⟨#[]⟩] 51)) := ((Below.refl _ _).alloc (Nat.le_refl _) _).alloc (by simp) _
 have HC := Lib.hid (scCheckU pv vv s _ (hS.below hba (Nat.le_refl _)) (h.lift hba) hm)
 have hC3 := Cells.new (w.alloc (.cells #[pv, vv] 29)) 51 #[.string ⟨#[]⟩, .string ⟨#[]⟩]
 rw [World.size_alloc] at hC3
 have HC3 := Lib.hid hC3
 have HBA := Lib.hid hba
 have heb : (scErr s != 0) = true := by rw [bne_iff_ne]; exact he
 obtain ⟨hp, A, c, rfl, _⟩ := h
 obtain ⟨AP, cp, rfl, _⟩ := hp.shape
 generalize scErr s = q at *
 clear hS hp hm he hba hC3
 go_enter Tryz.func22, Tryz.ntmps22
 go_wp2_with fail
 refine HC.out.mono ?_
 rintro e w1 ⟨rfl, hb1⟩
 have hc3 := HC3.out.below hb1 (by simp)
 obtain ⟨z0, z1⟩ := cel2 hc3
 have y0 := hc3.free 0
 have y1 := hc3.free 1
 have HB1 := Lib.hid (HBA.out.trans (hb1.mono HBA.out.size))
 clear hb1 hc3
 go_wp2_with fail
 refine bodyPost_ret (v := .tuple #[.agg #[.string ⟨#[]⟩, .string ⟨#[]⟩], .int .i64 q]) (by simp (maxDischargeDepth := 10) [results, Tryz.results22, go_sem, z0, z1]) rfl ⟨rfl, ?_⟩
 exact (HB1.out.setCell (by simp) _).setCell (by simp) _
set_option maxRecDepth 100000 in
set_option maxHeartbeats 8000000 in
theorem scSlicesU_err (pv vv : Value) (s : Sc) (w : World) (hS : Std w) (h : ScU w pv vv s) (hm : ScSm s) (he : scErr s ≠ 0) :
  Calls Tryz.prog 24 #[.agg #[pv, vv]] w fun e w' => e = .returned (.tuple #[.slice Option.none 0 0, .int .i64 (scErr s)]) ∧ Below w.heap.size w w' := by
 have hba : Below w.heap.size w (w.alloc (.cells #[pv, vv] 29)) := (Below.refl _ _).alloc (Nat.le_refl _) _
 have HC := Lib.hid (scCheckU pv vv s _ (hS.below hba (Nat.le_refl _)) (h.lift hba) hm)
 have HBA := Lib.hid hba
 have heb : (scErr s != 0) = true := by rw [bne_iff_ne]; exact he
 obtain ⟨hp, A, c, rfl, _⟩ := h
 obtain ⟨AP, cp, rfl, _⟩ := hp.shape
 generalize scErr s = q at *
 clear hS hp hm he hba
 go_enter Tryz.func24, Tryz.ntmps24
 go_wp2_with fail
 refine HC.out.mono ?_
 rintro e w1 ⟨rfl, hb1⟩
 have HB1 := Lib.hid (HBA.out.trans (hb1.mono HBA.out.size))
 clear hb1
 go_wp2_with fail
 go_ret2
 exact ⟨rfl, HB1.out⟩
set_option maxRecDepth 100000 in
set_option maxHeartbeats 8000000 in
theorem scNotesU_err (pv vv : Value) (s : Sc) (w : World) (hS : Std w) (h : ScU w pv vv s) (hm : ScSm s) (he : scErr s ≠ 0) :
  Calls Tryz.prog 25 #[.agg #[pv, vv]] w fun e w' => e = .returned (.tuple #[.slice Option.none 0 0, .int .i64 (scErr s)]) ∧ Below w.heap.size w w' := by
 have hba : Below w.heap.size w (w.alloc (.cells #[pv, vv] 29)) := (Below.refl _ _).alloc (Nat.le_refl _) _
 have HC := Lib.hid (scCheckU pv vv s _ (hS.below hba (Nat.le_refl _)) (h.lift hba) hm)
 have HBA := Lib.hid hba
 have heb : (scErr s != 0) = true := by rw [bne_iff_ne]; exact he
 obtain ⟨hp, A, c, rfl, _⟩ := h
 obtain ⟨AP, cp, rfl, _⟩ := hp.shape
 generalize scErr s = q at *
 clear hS hp hm he hba
 go_enter Tryz.func25, Tryz.ntmps25
 go_wp2_with fail
 refine HC.out.mono ?_
 rintro e w1 ⟨rfl, hb1⟩
 have HB1 := Lib.hid (HBA.out.trans (hb1.mono HBA.out.size))
 clear hb1
 go_wp2_with fail
 go_ret2
 exact ⟨rfl, HB1.out⟩
set_option maxRecDepth 100000 in
set_option maxHeartbeats 8000000 in
theorem scTransU_err (pv vv yv : Value) (y : List Int) (s : Sc) (w : World) (hS : Std w) (h : ScU w pv vv s) (hyv : IsRow w w.heap.size yv y) (hm : ScSm s) (he : scErr s ≠ 0) :
  Calls Tryz.prog 12 #[.agg #[pv, vv], yv] w fun e w' => e = .returned (.tuple #[.agg #[.slice Option.none 0 0, .slice Option.none 0 0], .int .i64 (scErr s)]) ∧ Below w.heap.size w w' := by
 have heb : (scErr s != 0) = true := by rw [bne_iff_ne]; exact he
 obtain ⟨hp, A, c, rfl, _⟩ := id h
 obtain ⟨AP, cp, rfl, _⟩ := hp.shape
 obtain ⟨AY, cy, rfl⟩ := hyv.shape
 obtain ⟨W0, hW0⟩ : ∃ W0, W0 = (w.alloc (.cells #[.slice AP s.primes.length cp, .slice A s.voices.length c] 29)).alloc (.cells #[.slice Option.none 0 0, .slice Option.none 0 0] 29) := ⟨_, rfl⟩
 have hb0 : Below w.heap.size w W0 := by rw [hW0]; exact ((Below.refl _ _).alloc (Nat.le_refl _) _).alloc (by simp) _
 have HPB : Hid (Cells W0 w.heap.size 29 [.slice AP s.primes.length cp, .slice A s.voices.length c]) := Lib.hid (by rw [hW0]; exact (Cells.new w 29 #[.slice AP s.primes.length cp, .slice A s.voices.length c]).alloc _)
 have HRB : Hid (Cells W0 (w.heap.size + 1) 29 [.slice Option.none 0 0, .slice Option.none 0 0]) := Lib.hid (by
  have h := Cells.new (w.alloc (.cells #[.slice AP s.primes.length cp, .slice A s.voices.length c] 29)) 29 #[.slice Option.none 0 0, .slice Option.none 0 0]
  rw [World.size_alloc] at h
  rw [hW0]
  exact h)
 have HC := Lib.hid (scCheckU _ _ s W0 (hS.below hb0 (Nat.le_refl _)) (h.lift hb0) hm)
 have HB0 := Lib.hid hb0
 generalize scErr s = q at *
 clear hS h hp hyv hm he hb0
 obtain ⟨z0, z1⟩ := cel2 HPB.out
 go_enter Tryz.func12, Tryz.ntmps12
 go_upto_region 1 with (fail)
 rw [← hW0]
 clear hW0
 go_wp2_with fail
 refine HC.out.mono ?_
 rintro e w1 ⟨rfl, hb1⟩
 have HB1 := Lib.hid (HB0.out.trans (hb1.mono HB0.out.size))
 have HRF := Lib.hid (HRB.out.below hb1 HRB.out.lt)
 clear hb1 z0 z1
 obtain ⟨r0, r1⟩ := cel2 HRF.out
 have f0 := HRF.out.free 0
 have f1 := HRF.out.free 1
 go_wp2_with fail
 have hset := (HRF.out.set 0 (.slice Option.none 0 0)).set 1 (.slice Option.none 0 0)
 obtain ⟨t0, t1⟩ := cel2 hset
 refine bodyPost_ret (v := .tuple #[.agg #[.slice Option.none 0 0, .slice Option.none 0 0], .int .i64 q]) (by simp (maxDischargeDepth := 10) [results, Tryz.results12, go_sem, t0, t1]) rfl ⟨rfl, ?_⟩
 exact (HB1.out.setCell (p := ⟨w.heap.size + 1, 0, Option.none⟩) (Nat.le_succ _) _).setCell (p := ⟨w.heap.size + 1, 1, Option.none⟩) (Nat.le_succ _) _
set_option maxRecDepth 100000 in
set_option maxHeartbeats 8000000 in
theorem scPrintU_err (pv vv : Value) (s : Sc) (w : World) (hS : Std w) (h : ScU w pv vv s) (hm : ScSm s) (he : scErr s ≠ 0) :
  Calls Tryz.prog 20 #[.agg #[pv, vv]] w fun e w' => e = .returned (.tuple #[.string ⟨#[]⟩, .int .i64 (scErr s)]) ∧ Below w.heap.size w w' := by
 have hba : Below w.heap.size w (w.alloc (.cells #[pv, vv] 29)) := (Below.refl _ _).alloc (Nat.le_refl _) _
 have HC := Lib.hid (scCheckU pv vv s _ (hS.below hba (Nat.le_refl _)) (h.lift hba) hm)
 have HBA := Lib.hid hba
 have heb : (scErr s != 0) = true := by rw [bne_iff_ne]; exact he
 obtain ⟨hp, A, c, rfl, _⟩ := h
 obtain ⟨AP, cp, rfl, _⟩ := hp.shape
 generalize scErr s = q at *
 clear hS hp hm he hba
 go_enter Tryz.func20, Tryz.ntmps20
 go_wp2_with fail
 refine HC.out.mono ?_
 rintro e w1 ⟨rfl, hb1⟩
 have HB1 := Lib.hid (HBA.out.trans (hb1.mono HBA.out.size))
 clear hb1
 go_wp2_with fail
 go_ret2
 exact ⟨rfl, HB1.out⟩
end Go.Proofs.YtaaeekahhhookaaGreatDoor
