import Derived.Test.YtaaeekahhhookaaGreatDoorGTCMCk
import Derived.Test.YtaaeekahhhookaaGreatDoorGBCk
import Derived.Test.YtaaeekahhhookaaGreatDoorGGMCk
import Derived.Laws.AppendOwnNone
import Derived.Test.YtaaeekahhhookaaGreatDoorFSgMCk
import Derived.Test.YtaaeekahhhookaaGreatDoorGTBCk
import Derived.Test.YtaaeekahhhookaaGreatDoorGACk
import Derived.Deep.RegionHeld3
import Derived.OrdersIn
import Derived.TacticsIn
import Derived.RangeFuncCalls
import Derived.Deep.AppendLies
import Derived.Deep.DrawnRows
import Derived.Maps.AppendAt
namespace Go.Proofs.YtaaeekahhhookaaGreatDoor
open Go.RowKit Go.Lib
theorem Tryz.info_row : (Tryz.prog.info? 40).map (fun i => (i.zero, i.size, i.bytes)) = some (some (.slice Option.none 0 0), 1, 24) := by kernel_rfl
set_option maxHeartbeats 1000000 in
theorem fracNew_any (n d : Int) (w : World) (hS : Std w) (hn : (itoa n).length ≤ 50000) (hd : (itoa d).length ≤ 50000) (hd0 : 0 < d) :
  Calls Tryz.prog 88 #[.string ⟨(itoa n).toArray⟩, .string ⟨(itoa d).toArray⟩] w fun e w' => e = .returned (.tuple #[.agg #[.string ⟨(itoa (lowN n d)).toArray⟩, .string ⟨(itoa (lowD n d)).toArray⟩], .int .i64 0]) ∧ Below w.heap.size w w' := by
 have HSG := Lib.hid (fun W => whSign_any d W (by omega))
 have hsg : sgn d = 1 := by unfold sgn; rw [if_neg (by omega), if_neg (by omega)]
 rw [hsg] at HSG
 have HL := Lib.hid (fun W hW => lowest_any n d W hW hn hd hd0)
 have HS := Lib.hid hS
 have hba : Below w.heap.size w (w.alloc (.cells #[.string ⟨#[]⟩, .string ⟨#[]⟩] 51)) := (Below.refl _ _).alloc (Nat.le_refl _) _
 have HBA := Lib.hid hba
 have HNC := Lib.hid (Cells.new w 51 #[.string ⟨#[]⟩, .string ⟨#[]⟩])
 clear hS hn hd hd0 hsg hba
 generalize lowN n d = ln at *
 generalize lowD n d = ld at *
 go_enter Tryz.func88, Tryz.ntmps88
 go_wp2_with fail
 refine (HSG.out _).mono ?_
 rintro e w1 ⟨rfl, hw⟩
 have hb1 : Below (w.alloc (.cells #[.string ⟨#[]⟩, .string ⟨#[]⟩] 51)).heap.size (w.alloc (.cells #[.string ⟨#[]⟩, .string ⟨#[]⟩] 51)) w1 := (by rw [← hw]; exact Below.refl _ _)
 have HB1 := Lib.hid (HBA.out.trans (hb1.mono HBA.out.size))
 have HC1 := Lib.hid (HNC.out.below hb1 HNC.out.lt)
 clear hw hb1
 go_wp2_with fail
 refine (HL.out _ (HS.out.below HB1.out (Nat.le_refl _))).mono ?_
 rintro e w2 ⟨rfl, hb2⟩
 have HB2 := Lib.hid (HB1.out.trans (hb2.mono HB1.out.size))
 have hc := HC1.out.below hb2 HC1.out.lt
 have z0 := hc.cell 0
 have z1 := hc.cell 1
 have y0 := hc.free 0
 have y1 := hc.free 1
 simp at z0 z1
 clear hb2 hc
 go_wp2_with fail
 refine bodyPost_ret (v := .tuple #[.agg #[.string ⟨(itoa ln).toArray⟩, .string ⟨(itoa ld).toArray⟩], .int .i64 0]) (by simp (maxDischargeDepth := 10) [results, Tryz.results88, go_sem, z0, z1]) rfl ⟨rfl, ?_⟩
 exact (HB2.out.setCell (Nat.le_refl _) _).setCell (Nat.le_refl _) _
set_option maxHeartbeats 1000000 in
theorem fracOf_any (n d : Int) (w : World) (hS : Std w) (hn : n.natAbs ≤ 1000000000000000000) (hd : d.natAbs ≤ 1000000000000000000) (hd0 : 0 < d) :
  Calls Tryz.prog 36 #[.int .i64 n, .int .i64 d] w fun e w' => e = .returned (.tuple #[.agg #[.string ⟨(itoa (lowN n d)).toArray⟩, .string ⟨(itoa (lowD n d)).toArray⟩], .int .i64 0]) ∧ Below w.heap.size w w' := by
 have hlen : ∀ z : Int, z.natAbs ≤ 1000000000000000000 → (itoa z).length ≤ 50000 := fun z hz => by
  have h := itoa_len z
  have h2 : (decDigits z.natAbs).length ≤ 19 := by rw [dec_length]; exact nDigits_le (by omega) (by omega)
  omega
 have HN := Lib.hid (fun W hW => whOf_any n W (by omega) (by omega) hW)
 have HD := Lib.hid (fun W hW => whOf_any d W (by omega) (by omega) hW)
 have HW := Lib.hid (fun W hW => fracNew_any n d W hW (hlen n hn) (hlen d hd) hd0)
 have HS := Lib.hid hS
 have hba : Below w.heap.size w (w.alloc (.cells #[.string ⟨#[]⟩, .string ⟨#[]⟩] 51)) := (Below.refl _ _).alloc (Nat.le_refl _) _
 have HBA := Lib.hid hba
 have HNC := Lib.hid (Cells.new w 51 #[.string ⟨#[]⟩, .string ⟨#[]⟩])
 clear hS hn hd hd0 hlen hba
 generalize lowN n d = ln at *
 generalize lowD n d = ld at *
 go_enter Tryz.func36, Tryz.ntmps36
 go_wp2_with fail
 refine (HN.out _ (HS.out.below HBA.out (Nat.le_refl _))).mono ?_
 rintro e w1 ⟨rfl, hb1⟩
 have HB1 := Lib.hid (HBA.out.trans (hb1.mono HBA.out.size))
 have HC1 := Lib.hid (HNC.out.below hb1 HNC.out.lt)
 clear hb1
 go_wp2_with fail
 refine (HD.out _ (HS.out.below HB1.out (Nat.le_refl _))).mono ?_
 rintro e w2 ⟨rfl, hb2⟩
 have HB2 := Lib.hid (HB1.out.trans (hb2.mono HB1.out.size))
 have HC2 := Lib.hid (HC1.out.below hb2 HC1.out.lt)
 clear hb2
 go_wp2_with fail
 refine (HW.out _ (HS.out.below HB2.out (Nat.le_refl _))).mono ?_
 rintro e w3 ⟨rfl, hb3⟩
 have HB3 := Lib.hid (HB2.out.trans (hb3.mono HB2.out.size))
 have hc := HC2.out.below hb3 HC2.out.lt
 have z0 := hc.cell 0
 have z1 := hc.cell 1
 have y0 := hc.free 0
 have y1 := hc.free 1
 simp at z0 z1
 clear hb3 hc
 go_wp2_with fail
 refine bodyPost_ret (v := .tuple #[.agg #[.string ⟨(itoa ln).toArray⟩, .string ⟨(itoa ld).toArray⟩], .int .i64 0]) (by simp (maxDischargeDepth := 10) [results, Tryz.results36, go_sem, z0, z1]) rfl ⟨rfl, ?_⟩
 exact (HB3.out.setCell (Nat.le_refl _) _).setCell (Nat.le_refl _) _
theorem RowsAt.lift {w w' : World} {A : Option Addr} {l : List (List Int)} (h : RowsAt w w.heap.size A l) (hb : Below w.heap.size w w') : RowsAt w' w'.heap.size A l :=
 ⟨fun k x hx => by
   obtain ⟨ad, v, e, h1, h2, h3⟩ := h.get k x hx
   exact ⟨ad, v, e, Nat.lt_of_lt_of_le h1 hb.size, (hb.cell (p := ad.add k) (by rw [add_block]; exact h1)).trans h2, h3.lift hb⟩⟩
end Go.Proofs.YtaaeekahhhookaaGreatDoor
