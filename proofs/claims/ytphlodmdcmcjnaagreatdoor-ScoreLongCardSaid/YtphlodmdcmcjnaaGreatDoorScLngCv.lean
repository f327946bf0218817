/- ScoreLong: the walk. (Printed by gen48.py.) -/
import Derived.Test.YtphlodmdcmcjnaaGreatDoorGXNCv
import Derived.Test.YtphlodmdcmcjnaaGreatDoorMk48Cv
import Derived.Test.YtphlodmdcmcjnaaGreatDoorLg48Cv
import Derived.Test.YtphlodmdcmcjnaaGreatDoorGXFCv
import Derived.Deep.AppendLies
import Derived.Test.YtphlodmdcmcjnaaGreatDoorGTACv
namespace Go.Proofs.YtphlodmdcmcjnaaGreatDoor
open Go.RowKit Go.Lib

set_option maxRecDepth 100000 in
set_option maxHeartbeats 8000000 in
theorem scLng_walk (n0 n1 : Nat) (w : World) (hS : Std w) (hL : ∃ m, w.cell? ⟨0, 0, Option.none⟩ = some (.int .i64 m)) (hn : n0 ≤ 65535) (hk : n1 ≤ 255) :
    Calls Tryz.prog 6 #[.int .u16 n0, .int .u8 n1] w fun e w' => e = .returned (.bool true) ∧ Below w.heap.size w w' := by
  obtain ⟨i0, hi0, hz0, hz1, hz2⟩ := info_parts Tryz.info_row
  obtain ⟨je, hie, gz0, gz1, gz2⟩ := info_parts Tryz.info_event48
  have HS := Lib.hid hS
  have HLI : Hid (LenIs w) := Lib.hid hL
  clear hS hL
  go_enter Tryz.func6, Tryz.ntmps6
  go_wp2_with fail
  refine (known48 _ HS.out HLI.out).mono ?_
  rintro e w1 ⟨rfl, hb1⟩
  have HB := Lib.hid hb1
  replace HS := Lib.hid (HS.out.below hb1 (Nat.le_refl _))
  replace HLI : Hid (LenIs w1) := Lib.hid (HLI.out.below hb1)
  clear hb1
  by_cases h500 : 500 < n0
  · have h5i : (500 : Int) < (n0 : Int) := by omega
    go_wp2_with fail
    refine (known48 _ HS.out HLI.out).mono ?_
    rintro e w9 ⟨rfl, hb9⟩
    go_wp2_with fail
    go_ret
    exact ⟨rfl, HB.out.trans (hb9.mono HB.out.size)⟩
  · by_cases h12 : 12 < n1
    · have h5i : ¬ (500 : Int) < (n0 : Int) := by omega
      have h12i : (12 : Int) < (n1 : Int) := by omega
      go_wp2_with fail
      refine (known48 _ HS.out HLI.out).mono ?_
      rintro e w9 ⟨rfl, hb9⟩
      go_wp2_with fail
      go_ret
      exact ⟨rfl, HB.out.trans (hb9.mono HB.out.size)⟩
    · have h5i : ¬ (500 : Int) < (n0 : Int) := by omega
      have h12i : ¬ (12 : Int) < (n1 : Int) := by omega
      have hn5 : n0 ≤ 500 := by omega
      have hk12 : n1 ≤ 12 := by omega
      clear h500 h12 hn hk
      obtain ⟨W2, hW2⟩ : ∃ W2, W2 = w1.alloc (.cells #[.int .i64 2] 3) := ⟨_, rfl⟩
      obtain ⟨PB, hPB⟩ : ∃ PB, PB = w1.heap.size := ⟨_, rfl⟩
      obtain ⟨VB, hVB⟩ : ∃ VB, VB = W2.heap.size := ⟨_, rfl⟩
      obtain ⟨W3, hW3⟩ : ∃ W3, W3 = W2.alloc (.cells #[.string ⟨#[97]⟩, .slice Option.none 0 0] 52) := ⟨_, rfl⟩
      obtain ⟨SB, hSB⟩ : ∃ SB, SB = W3.heap.size := ⟨_, rfl⟩
      obtain ⟨W4, hW4⟩ : ∃ W4, W4 = W3.alloc (.cells #[.slice (some ⟨PB, 0, Option.none⟩) 1 1, .slice (some ⟨VB, 0, Option.none⟩) 1 1] 31) := ⟨_, rfl⟩
      have hPV : VB = PB + 1 := by rw [hVB, hW2, hPB, World.size_alloc]
      have hVS : SB = PB + 2 := by rw [hSB, hW3, World.size_alloc, ← hVB]; omega
      have hb2 : Below w1.heap.size w1 W2 := by rw [hW2]; exact (Below.refl _ _).alloc (Nat.le_refl _) _
      have hb3 : Below W2.heap.size W2 W3 := by rw [hW3]; exact (Below.refl _ _).alloc (Nat.le_refl _) _
      have hb4 : Below W3.heap.size W3 W4 := by rw [hW4]; exact (Below.refl _ _).alloc (Nat.le_refl _) _
      have hP2 : Cells W2 PB 3 (is [2]) := by rw [hW2, hPB]; exact Cells.new w1 3 #[.int .i64 2]
      have hP3 := hP2.below hb3 hP2.lt
      have hV3 : Cells W3 VB 52 [.string ⟨#[97]⟩, .slice Option.none 0 0] := by rw [hW3, hVB]; exact Cells.new W2 52 #[.string ⟨#[97]⟩, .slice Option.none 0 0]
      have HPC := Lib.hid (hP3.below hb4 hP3.lt)
      have HVC := Lib.hid (hV3.below hb4 hV3.lt)
      have HSC : Hid (Cells W4 SB 31 [.slice (some ⟨PB, 0, Option.none⟩) 1 1, .slice (some ⟨VB, 0, Option.none⟩) 1 1]) := Lib.hid (by rw [hW4, hSB]; exact Cells.new W3 31 #[.slice (some ⟨PB, 0, Option.none⟩) 1 1, .slice (some ⟨VB, 0, Option.none⟩) 1 1])
      have HBV : Hid (Below VB W2 W4) := Lib.hid (by rw [hVB]; exact hb3.trans (hb4.mono hb3.size))
      have hb14 : Below w1.heap.size w1 W4 := hb2.trans ((hb3.trans (hb4.mono hb3.size)).mono hb2.size)
      have HB2 := Lib.hid (HB.out.trans (hb2.mono HB.out.size))
      have hVBw : w.heap.size ≤ VB := by have := HB.out.size; omega
      have HS2 := Lib.hid (HS.out.below hb2 (Nat.le_refl _))
      have HVB2 : Box (VB = W2.heap.size) := ⟨hVB⟩
      have HP2 := Lib.hid hP2
      clear hb2 hb3 hb4 hP2 hP3 hV3 hb14 HS HB HLI
      go_upto_region 5 with (fail)
      rw [show w1.heap.size + 1 + 1 = SB by omega, show w1.heap.size + 1 = VB by omega, ← hPB, ← hW2, ← hW3, ← hW4]
      have hPBV : PB < VB := by omega
      have hVBS : VB < SB := by omega
      clear hW2 hW3 hW4 hVB hSB hPV hVS hPB
      have hSCE : [.slice (some ⟨PB, 0, Option.none⟩) 1 1, .slice (some ⟨VB, 0, Option.none⟩) 1 1] = [.slice (some ⟨PB, 0, Option.none⟩) 1 1, Value.slice (some ⟨VB, 0, Option.none⟩) 1 1] := rfl
      clear hSCE
      go_loopw [6] (fun i wr => ∃ (k : Nat) (ev : Value), k ≤ n0 ∧ i = .int .i64 k ∧ Cells wr VB 52 [.string ⟨#[97]⟩, ev] ∧ Cells wr SB 31 [.slice (some ⟨PB, 0, Option.none⟩) 1 1, .slice (some ⟨VB, 0, Option.none⟩) 1 1] ∧ EvO wr (SB + 1) ev (List.replicate k (lgEv n1)) ∧ Below VB W2 wr) (fun i _ => n0 - (intOf i).toNat)
      case atStart => exact ⟨0, _, Nat.zero_le _, rfl, HVC.out, HSC.out, EvO.nil _ _, HBV.out⟩
      case round =>
        clear HVC HSC HBV HPC
        obtain ⟨k, ev, hk, rfl, hvc, hsc, hev, hbv⟩ := hrel
        have HVC := Lib.hid hvc
        have HSC := Lib.hid hsc
        have HEV := Lib.hid hev
        have HBV := Lib.hid hbv
        have hvl := hvc.lt
        have hsl := hsc.lt
        clear hvc hsc hev hbv
        by_cases hlt : k < n0
        · have hkn : (k : Int) < (n0 : Int) := by omega
          obtain ⟨W5, hW5⟩ : ∃ W5, W5 = wr.alloc (.cells #[.string ⟨#[49]⟩, .string ⟨#[50]⟩, .slice Option.none 0 0] 65) := ⟨_, rfl⟩
          obtain ⟨XB, hXB⟩ : ∃ XB, XB = wr.heap.size := ⟨_, rfl⟩
          have HX5 : Hid (Cells W5 XB 65 [.string ⟨#[49]⟩, .string ⟨#[50]⟩, .slice Option.none 0 0]) := Lib.hid (by rw [hW5, hXB]; exact Cells.new wr 65 #[.string ⟨#[49]⟩, .string ⟨#[50]⟩, .slice Option.none 0 0])
          have HB5 : Hid (Below XB wr W5) := Lib.hid (by rw [hXB, hW5]; exact (Below.refl _ _).alloc (Nat.le_refl _) _)
          have HXE : Box (XB = wr.heap.size) := ⟨hXB⟩
          have hVX : VB < XB := by omega
          have hSX : SB < XB := by omega
          go_upto_region 9 with (fail)
          rw [← hW5, ← hXB]
          clear hW5 hXB
          go_loopw [8] (fun i wx => ∃ (j : Nat) (nv : Value), j ≤ n1 ∧ i = .int .i64 j ∧ Cells wx XB 65 [.string ⟨#[49]⟩, .string ⟨#[50]⟩, nv] ∧ NtO wx (XB + 1) nv (List.replicate j [0]) ∧ Below XB wr wx) (fun i _ => n1 - (intOf i).toNat)
          case atStart => exact ⟨0, _, Nat.zero_le _, rfl, HX5.out, NtO.nil _ _, HB5.out⟩
          case round =>
            clear HX5 HB5
            rename World => wx
            obtain ⟨j, nv, hj, rfl, hx, hnt, hbx⟩ := hrel
            have hxl := hx.lt
            by_cases hjl : j < n1
            · have hji : (j : Int) < (n1 : Int) := by omega
              have hb1 : Below wx.heap.size wx (wx.alloc (.cells #[.int .i64 0] 3)) := (Below.refl _ _).alloc (Nat.le_refl _) _
              obtain ⟨css, hlo⟩ := hnt.below hb1
              have hlr : (List.replicate j [(0 : Int)]).length = j := List.length_replicate
              have HLR : Box ((List.replicate j [(0 : Int)]).length = j) := ⟨hlr⟩
              have hown := hlo.own
              rw [hlr] at hown
              have HLO := Lib.hid hlo
              have HO := Lib.hid hown
              have HX1 := Lib.hid (hx.below hb1 hx.lt)
              have HIR : Hid (IRow (wx.alloc (.cells #[.int .i64 0] 3)) (wx.alloc (.cells #[.int .i64 0] 3)).heap.size (.slice (some ⟨wx.heap.size, 0, Option.none⟩) 1 1) [0]) := Lib.hid (IRow.of_trow (trow_cells (x := [0]) (Cells.new wx 3 #[.int .i64 0]) rfl (by simp)))
              have HNW : Hid (((wx.alloc (.cells #[.int .i64 0] 3)).alloc (.cells #[.slice (some ⟨wx.heap.size, 0, Option.none⟩) 1 1] 66)).heap[wx.heap.size + 1]? = some (.cells #[.slice (some ⟨wx.heap.size, 0, Option.none⟩) 1 1] 66)) := Lib.hid (by have h := heap_alloc_new (wx.alloc (.cells #[.int .i64 0] 3)) (.cells #[.slice (some ⟨wx.heap.size, 0, Option.none⟩) 1 1] 66); rwa [World.size_alloc] at h)
              have HBX1 := Lib.hid (hbx.trans (hb1.mono (Nat.le_of_lt hxl)))
              have hs1 : (wx.alloc (.cells #[.int .i64 0] 3)).heap.size = wx.heap.size + 1 := World.size_alloc _ _
              obtain ⟨x0, x1, x2⟩ := cel3 hx
              obtain ⟨y0, y1, y2⟩ := cel3 HX1.out
              obtain ⟨v0, v1, v2⟩ := cel3 (HX1.out.alloc (.cells #[.slice (some ⟨wx.heap.size, 0, Option.none⟩) 1 1] 66))
              clear hlo hown hnt hb1 hlr hbx
              go_wp2_with (at_builtin; refine wpList_append_own _ rfl _ _ _ rfl (XB + 1) 66 i0 (.slice Option.none 0 0) 1 24 Tryz.underlying63 hi0 hz0 hz1 hz2 rfl (by decide) _ _ _ rfl (HO.out.alloc _) ⟨wx.heap.size + 1, 0, Option.none⟩ 1 1 [.slice (some ⟨wx.heap.size, 0, Option.none⟩) 1 1] rfl rfl (World.news_of_block (cs := #[.slice (some ⟨wx.heap.size, 0, Option.none⟩) 1 1]) (t := 66) (fr := (0, 0)) HNW.out) (by simp [Value.oneCell']) (by unfold maxLen; omega) (by omega) (by simp; omega) ?_; intro v9 w9 hown9 hg9 _; obtain ⟨g9, c9, rfl, _, _⟩ := hown9.form (by omega); obtain ⟨hxB, hloB, hxN, hbN⟩ := cell_grow (j := 2) (Q := fun w => NoteQ w w.heap.size) (x := [0]) (fun hk h => h.keep hk (by decide) hk.size) HLO.out HX1.out (by decide) ⟨_, rfl, HIR.out⟩ rfl hg9 (by rw [HLR.out]; exact hown9); have fB := hxB.free 2; obtain ⟨_, _, sB⟩ := cel3 hxB)
              have HXN := Lib.hid hxN
              have HLN := Lib.hid hloB
              have HBN := Lib.hid (HBX1.out.trans (hbN XB (Nat.le_succ _) (Nat.le_refl _) (by omega)))
              clear hxB hloB hxN hbN fB sB hown9 hg9 x0 x1 x2 y0 y1 y2 v0 v1 v2
              go_roundw
              case rel => exact ⟨j + 1, _, by omega, by go_num, HXN.out, ⟨_, by rw [List.replicate_succ']; exact HLN.out⟩, HBN.out⟩
              case measure => simp [intOf]; omega
            · obtain rfl : j = n1 := by omega
              obtain ⟨AN, cN, rfl, hN1, hN2, hN3⟩ := hnt.shape
              rw [List.length_replicate] at hN1 hx
              have hbw : Below wr.heap.size wr wx := by rw [← HXE.out]; exact hbx
              have hd9 : Below wx.heap.size wx wx.drew := below_to_drew (Below.refl _ _)
              have hbd : Below wr.heap.size wr wx.drew := hbw.trans (hd9.mono hbw.size)
              have hqe : EvQ wx.drew wx.drew.heap.size (lgEv j) [.string ⟨#[49]⟩, .string ⟨#[50]⟩, .slice AN j cN] := ⟨AN, cN, by show _ = [Value.string ⟨#[49]⟩, .string ⟨#[50]⟩, .slice AN (List.replicate j [0]).length cN]; rw [List.length_replicate], by show (List.replicate j [(0 : Int)]).length ≤ cN; rw [List.length_replicate]; exact hN1, hN2, NotesT.lift hN3 hd9⟩
              have HQE := Lib.hid hqe
              obtain ⟨css, hlo⟩ := HEV.out.below hbd
              have HLO := Lib.hid hlo
              have HLR : Box ((List.replicate k (lgEv j)).length = k) := ⟨List.length_replicate⟩
              have hown := hlo.own
              rw [HLR.out] at hown
              have HO := Lib.hid hown
              have hvx := HVC.out.below hbw hvl
              have hsx := HSC.out.below hbw hsl
              have HVD := Lib.hid (HVC.out.below hbd hvl)
              have HSD := Lib.hid (HSC.out.below hbd hsl)
              have HBD := Lib.hid (HBV.out.trans (hbd.mono (Nat.le_of_lt hvl)))
              obtain ⟨x0, x1, x2⟩ := cel3 hx
              obtain ⟨s0, s1⟩ := cel2 hsx
              obtain ⟨v0, v1⟩ := cel2 hvx
              obtain ⟨s2, s3⟩ := cel2 (hsx.alloc (.cells #[.string ⟨#[49]⟩, .string ⟨#[50]⟩, .slice AN j cN] 65))
              obtain ⟨v2, v3⟩ := cel2 (hvx.alloc (.cells #[.string ⟨#[49]⟩, .string ⟨#[50]⟩, .slice AN j cN] 65))
              have hvwx : VB < wx.heap.size := hvx.lt
              obtain ⟨t0, t1, t2⟩ := cel3 (hx.alloc (.cells #[.string ⟨#[49]⟩, .string ⟨#[50]⟩, .slice AN j cN] 65))
              have HXD := Lib.hid (hx.below hd9 hx.lt)
              have hneX : ev.ownBlock ≠ some XB := fun e => by
                obtain ⟨css0, hlo0⟩ := HEV.out
                have h1 := (hlo0.lt XB e).2
                have h2 := HXE.out
                omega
              clear hnt hbx hbw hd9 hbd hqe hlo hown hN2 hN3 hvx hsx hx
              go_wp2_with fail
              refine region_E (T := (fun w' => w'.cell? ⟨SB, 1, Option.none⟩ = some (.slice (some ⟨VB, 0, Option.none⟩) 1 1))) (D := []) (S := (fun w' => w'.cell? ⟨VB, 1, Option.none⟩ = some ev ∧ w'.cell? ⟨XB, 0, Option.none⟩ = some (.string ⟨#[49]⟩) ∧ w'.cell? ⟨XB, 1, Option.none⟩ = some (.string ⟨#[50]⟩) ∧ w'.cell? ⟨XB, 2, Option.none⟩ = some (.slice AN j cN))) (E := [12]) (by kernel_rfl) ?_ (fun hHeld => ?_)
              · exact ⟨s1, v1, x0, x1, x2⟩
              refine anyE_easyD (i := 0) (d := some 46) (oi := _) (v := ?ev1) rfl rfl (by kernel_rfl) (by kernel_rfl) (by kernel_rfl) (fun _ _ _ h => h) (Or.inl ⟨by rfl, ?eh1⟩) ?er1
              case eh1 => (intro w hSw; (try dsimp only at hSw); go_simp; try (with_reducible rfl))
              try simp only [Act.put, List.setIfInBounds_toArray, List.set_cons_zero, List.set_cons_succ]
              refine anyE_heldD (i := 1) (d := some 47) (oi := _) (v := ?ev2) rfl rfl (by kernel_rfl) (by kernel_rfl) (by kernel_rfl) (by kernel_rfl) (fun _ _ _ h => h) (Or.inl ⟨by rfl, ?eh2⟩) (by first | exact hHeld | exact And.left hHeld) ?er2
              case eh2 => (intro w hSw; (try dsimp only at hSw); go_simp; try (with_reducible rfl))
              try simp only [Act.put, List.setIfInBounds_toArray, List.set_cons_zero, List.set_cons_succ]
              refine anyE_easyD (i := 2) (d := some 48) (oi := _) (v := ?ev3) rfl rfl (by kernel_rfl) (by kernel_rfl) (by kernel_rfl) (fun _ _ _ h => h) (Or.inl ⟨by rfl, ?eh3⟩) ?er3
              case eh3 => (intro w hSw; (try dsimp only at hSw); go_simp; try (with_reducible rfl))
              try simp only [Act.put, List.setIfInBounds_toArray, List.set_cons_zero, List.set_cons_succ]
              refine anyE_heldD (i := 3) (d := some 49) (oi := _) (v := ?ev4) rfl rfl (by kernel_rfl) (by kernel_rfl) (by kernel_rfl) (by kernel_rfl) (fun _ _ _ h => h) (Or.inl ⟨by rfl, ?eh4⟩) (by first | exact hHeld | exact And.left hHeld) ?er4
              case eh4 => (intro w hSw; (try dsimp only at hSw); go_simp; try (with_reducible rfl))
              try simp only [Act.put, List.setIfInBounds_toArray, List.set_cons_zero, List.set_cons_succ]
              refine anyE_easyD (i := 4) (d := some 50) (oi := _) (v := ?ev5) rfl rfl (by kernel_rfl) (by kernel_rfl) (by kernel_rfl) (fun _ _ _ h => h) (Or.inl ⟨by rfl, ?eh5⟩) ?er5
              case eh5 => (intro w hSw; (try dsimp only at hSw); go_simp; try (with_reducible rfl))
              try simp only [Act.put, List.setIfInBounds_toArray, List.set_cons_zero, List.set_cons_succ]
              refine anyE_easyD (i := 5) (d := some 51) (oi := _) (v := ?ev6) rfl rfl (by kernel_rfl) (by kernel_rfl) (by kernel_rfl) (fun _ _ _ h => h) (Or.inl ⟨by rfl, ?eh6⟩) ?er6
              case eh6 => (intro w hSw; (try dsimp only at hSw); go_simp; try (with_reducible rfl))
              try simp only [Act.put, List.setIfInBounds_toArray, List.set_cons_zero, List.set_cons_succ]
              refine anyE_loadD (i := 6) (d := some 52) (oi := _) (v := ?ev7) rfl rfl (by kernel_rfl) (by kernel_rfl) (by kernel_rfl) (by kernel_rfl) (fun _ _ _ h => h) (Or.inl ⟨by rfl, ?eh7⟩) (by assumption) ?er7
              case eh7 => (intro w hSw; (try dsimp only at hSw); go_simp; try (with_reducible rfl))
              try simp only [Act.put, List.setIfInBounds_toArray, List.set_cons_zero, List.set_cons_succ]
              refine anyE_loadD (i := 7) (d := some 53) (oi := _) (v := ?ev8) rfl rfl (by kernel_rfl) (by kernel_rfl) (by kernel_rfl) (by kernel_rfl) (fun _ _ _ h => h) (Or.inl ⟨by rfl, ?eh8⟩) (by assumption) ?er8
              case eh8 => (intro w hSw; (try dsimp only at hSw); go_simp; try (with_reducible rfl))
              try simp only [Act.put, List.setIfInBounds_toArray, List.set_cons_zero, List.set_cons_succ]
              refine anyE_oneD (i := 8) (o := _) (d := some 54) (by kernel_rfl) rfl rfl (fun K hK => ?_)
              go_simp
              refine hK.out _ _ ?_ (fun hHeld => ?_)
              · exact ⟨s3, v3, t0, t1, t2⟩
              refine anyE_oneD (i := 9) (o := _) (d := some 55) (by kernel_rfl) rfl rfl (fun K hK => ?_)
              refine step_append_lies _ (by rfl) _ _ _ (by rfl) (SB + 1) 65 je _ 3 56 Tryz.underlying50 hie gz0 gz1 gz2 rfl (by omega) ev k css.flatten (by rfl) (HO.out.alloc _) ⟨wx.heap.size, 0, Option.none⟩ 1 1 [.string ⟨#[49]⟩, .string ⟨#[50]⟩, .slice AN j cN] (by rfl) (by rfl) (World.news_of_block (cs := #[.string ⟨#[49]⟩, .string ⟨#[50]⟩, .slice AN j cN]) (t := 65) (fr := (0, 0)) (heap_alloc_new wx.drew _)) (by simp [Value.oneCell']) (by omega) (by unfold maxLen; omega) (by omega) (by simp; omega) (wx.heap.size + 1) (by simp) ?_
              intro gB cB wB hownB hgB hatB hltB
              obtain ⟨hxB, hloB, hxN, hbN⟩ := cell_grow (j := 1) (Q := fun w => EvQ w w.heap.size) (x := lgEv j) (fun hk h => h.keep hk (by decide) (by decide) hk.size) HLO.out HVD.out (by decide) HQE.out rfl hgB (by rw [HLR.out]; exact hownB)
              have hsB := (HSD.out.alloc (.cells #[.string ⟨#[49]⟩, .string ⟨#[50]⟩, .slice AN j cN] 65)).grown hgB (own_off_ty HO.out HSD.out (by decide))
              have fB := hxB.free 1
              obtain ⟨_, sB⟩ := cel2 hxB
              obtain ⟨sB0, sB1⟩ := cel2 hsB
              obtain ⟨xB0, xB1, xB2⟩ := cel3 ((HXD.out.alloc (.cells #[.string ⟨#[49]⟩, .string ⟨#[50]⟩, .slice AN j cN] 65)).grown hgB fun e => hneX e.symm)
              refine hK.out _ _ ?_ (fun hHeld => ?_)
              · exact ⟨sB1, sB, xB0, xB1, xB2⟩
              refine anyE_easyD (i := 10) (d := some 56) (oi := _) (v := ?ev9) rfl rfl (by kernel_rfl) (by kernel_rfl) (by kernel_rfl) (fun _ _ _ h => h) (Or.inl ⟨by rfl, ?eh9⟩) ?er9
              case eh9 => (intro w hSw; (try dsimp only at hSw); go_simp; try (with_reducible rfl))
              try simp only [Act.put, List.setIfInBounds_toArray, List.set_cons_zero, List.set_cons_succ]
              refine anyE_easyD (i := 11) (d := some 57) (oi := _) (v := ?ev10) rfl rfl (by kernel_rfl) (by kernel_rfl) (by kernel_rfl) (fun _ _ _ h => h) (Or.inl ⟨by rfl, ?eh10⟩) ?er10
              case eh10 => (intro w hSw; (try dsimp only at hSw); go_simp; try (with_reducible rfl))
              try simp only [Act.put, List.setIfInBounds_toArray, List.set_cons_zero, List.set_cons_succ]
              refine anyE_lastD (i := 12) (o := _) (d := Option.none) (by kernel_rfl) rfl rfl (by decide) (fun K hK => ?_)
              go_simp
              have hsN := hsB.far (p := ⟨VB, 1, Option.none⟩) (by show SB ≠ VB; omega) (.slice (some ⟨gB, 0, Option.none⟩) (k + 1) cB)
              refine hK.out _ _ ?_ (fun hHeld => ?_)
              · exact hsN.cell 1
              refine anyE_done (by kernel_rfl) ?_ _
              have HXN := Lib.hid hxN
              have HLN := Lib.hid hloB
              have HSN := Lib.hid hsN
              have HBN := Lib.hid (HBD.out.trans (hbN VB (by omega) (Nat.le_refl _) (Nat.le_of_lt hvwx)))
              clear hxB hloB hxN hbN fB sB sB0 sB1 hsB hsN hownB hgB hatB hltB x0 x1 x2 s0 s1 s2 s3 v0 v1 v2 v3 t0 t1 t2 xB0 xB1 xB2 hHeld
              go_wp2_with fail
              go_roundw
              case rel => exact ⟨k + 1, _, by omega, by go_num, HXN.out, HSN.out, ⟨_, by rw [List.replicate_succ']; exact HLN.out⟩, HBN.out⟩
              case measure => simp [intOf]; omega
        · obtain rfl : k = n0 := by omega
          obtain ⟨AE, cE, rfl, hE1, hE2, hE3⟩ := HEV.out.shape
          have hP := HP2.out.below (HBV.out.mono (by rw [← HVB2.out]; exact Nat.le_refl _)) HP2.out.lt
          have hbw2 : Below W2.heap.size W2 wr := HBV.out.mono (by rw [← HVB2.out]; exact Nat.le_refl _)
          have hiv : IRow wr wr.heap.size (.slice (some ⟨PB, 0, Option.none⟩) 1 1) (lgSc k n1).primes := IRow.of_trow (trow_cells hP rfl (by show (1 : Nat) ≤ 1000000; omega))
          have hsv : ScV wr wr.heap.size (.slice (some ⟨PB, 0, Option.none⟩) 1 1) (.slice (some ⟨VB, 0, Option.none⟩) 1 1) (lgSc k n1) := ⟨hiv, some ⟨VB, 0, Option.none⟩, 1, rfl, Nat.le_refl _, by unfold maxLen; omega, ⟨fun q x hq => by
            have hq0 : q = 0 := by have := (List.getElem?_eq_some_iff.1 hq).1; simp [lgSc] at this; exact this
            subst hq0
            obtain rfl : (⟨[97], List.replicate k (lgEv n1)⟩ : Vc) = x := by simpa [lgSc] using hq
            refine ⟨VB, 0, [.string ⟨#[97]⟩, .slice AE (List.replicate k (lgEv n1)).length cE], rfl, hvl, TyB.of_cells HVC.out, rfl, fun q hq => ?_, AE, cE, rfl, hE1, hE2, hE3⟩
            rw [Nat.zero_mul, Nat.add_zero, Nat.zero_add]
            exact HVC.out.cell q⟩⟩
          have HSV := Lib.hid hsv
          have HPR := Lib.hid (scPrint_ok _ _ (lgSc k n1) wr (HS2.out.below hbw2 (Nat.le_refl _)) hsv (lgSc_sm hn5 hk12) (lgSc_err hn5 hk12) (lg_bd hn5 hk12).1 (lg_bd hn5 hk12).2)
          have HBR := Lib.hid (HB2.out.trans (hbw2.mono HB2.out.size))
          have hout := lg_out k n1
          have hm3 : (k : Int) * (3 + (n1 : Int)) = ((k * (3 + n1) : Nat) : Int) := by push_cast; rfl
          have hm6 : (k : Int) * (6 + 4 * (n1 : Int)) = ((k * (6 + 4 * n1) : Nat) : Int) := by push_cast; rfl
          have hb3 : k * (3 + n1) ≤ 500 * 15 := Nat.mul_le_mul hn5 (by omega)
          have hb6 : k * (6 + 4 * n1) ≤ 500 * 54 := Nat.mul_le_mul hn5 (by omega)
          obtain ⟨s0, s1⟩ := cel2 HSC.out
          clear hsv hiv hP hE1 hE2 hE3 HSV HVC HSC HEV HBV hbw2
          generalize k * (3 + n1) = m3 at *
          generalize k * (6 + 4 * n1) = m6 at *
          generalize prOut (lgSc k n1) = out at *
          have hwa : IntKind.i64.wrap (3 + (n1 : Int)) = 3 + (n1 : Int) := IntWalk.i64_in _ (by omega)
          have hwb : IntKind.i64.wrap (4 * (n1 : Int)) = 4 * (n1 : Int) := IntWalk.i64_in _ (by omega)
          have hwc : IntKind.i64.wrap (6 + 4 * (n1 : Int)) = 6 + 4 * (n1 : Int) := IntWalk.i64_in _ (by omega)
          have hwd : IntKind.i64.wrap (m3 : Int) = (m3 : Int) := IntWalk.i64_in _ (by omega)
          have hwe : IntKind.i64.wrap (m6 : Int) = (m6 : Int) := IntWalk.i64_in _ (by omega)
          have hwf : IntKind.i64.wrap (6 + (m3 : Int)) = 6 + (m3 : Int) := IntWalk.i64_in _ (by omega)
          have hwg : IntKind.i64.wrap (17 + (m6 : Int)) = 17 + (m6 : Int) := IntWalk.i64_in _ (by omega)
          rcases hout with ⟨hgt, rfl⟩ | ⟨hle, t, htl, rfl⟩
          · go_wp2_with fail
            refine HPR.out.mono ?_
            rintro e w8 ⟨rfl, hb8⟩
            have hgi : (4000 : Int) < 6 + (m3 : Int) := by omega
            go_wp2_with fail
            go_ret
            exact ⟨rfl, HBR.out.trans (hb8.mono HBR.out.size)⟩
          · go_wp2_with fail
            refine HPR.out.mono ?_
            rintro e w8 ⟨rfl, hb8⟩
            have hgi : ¬ (4000 : Int) < 6 + (m3 : Int) := by omega
            have hti : (t.length : Int) = 17 + (m6 : Int) := by omega
            go_wp2_with fail
            go_ret
            exact ⟨rfl, HBR.out.trans (hb8.mono HBR.out.size)⟩

end Go.Proofs.YtphlodmdcmcjnaaGreatDoor
