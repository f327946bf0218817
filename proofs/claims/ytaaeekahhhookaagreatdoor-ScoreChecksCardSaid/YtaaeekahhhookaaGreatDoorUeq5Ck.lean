import Derived.Test.YtaaeekahhhookaaGreatDoorDq48MCk
import Derived.Test.YtaaeekahhhookaaGreatDoorGCDMCk
import Derived.Laws.EntriesVeiled
namespace Go.Proofs.YtaaeekahhhookaaGreatDoor
open Go.RowKit Go.Lib
theorem dq_rows (l m : List (List Int)) : dq l m = rowsEq l m := by
 unfold rowsEq
 by_cases h : l = m
 ·rw [dq_iff.2 h, decide_eq_true h]
 ·rw [dq_ne h, decide_eq_false h]
set_option maxHeartbeats 1000000 in
theorem slEqP_any (xv yv : Value) (x y : List Int) (w : World) (hx : IsRow w w.heap.size xv x) (hy : IsRow w w.heap.size yv y) :
  Calls Tryz.prog 54 #[xv, yv] w fun e w' => e = .returned (.bool (sameB x y)) ∧ Below w.heap.size w w' := by
 have HS : Hid (sameB x y = decide (x = y)) := rfl
 obtain ⟨AX, cx, rfl, hxc, hxm, hxr⟩ := hx
 obtain ⟨AY, cy, rfl, hyc, hym, hyr⟩ := hy
 unfold maxLen at hxm hym
 by_cases hl : x.length = y.length
 ·have hne : ((x.length : Int) != (y.length : Int)) = false := by simp [hl]
  have HL := Lib.hid hl
  have hxl : x.length ≤ 9223372036854775807 := by omega
  clear hl hxc hyc hxm hym
  go_enter Tryz.func54, Tryz.ntmps54
  go_wp2
  go_loopw [5, 13] (fun _ i wr => ∃ k : Nat, k ≤ x.length ∧ i = .int .i64 k ∧ Box (x.take k = y.take k) ∧ Below w.heap.size w wr) (fun _ i _ => x.length - (intOf i).toNat)
  case atStart => exact ⟨0, Nat.zero_le _, rfl, ⟨by simp⟩, Below.refl _ _⟩
  case round =>
   obtain ⟨k, hk, rfl, HT, hbw⟩ := hrel
   by_cases hlt : k < x.length
   ·obtain ⟨ad1, rfl, _, hc1⟩ := (hxr.below hbw (Nat.le_refl _)).i_at hlt
    have hly : k < y.length := by rw [← HL.out]; exact hlt
    obtain ⟨ad2, rfl, _, hc2⟩ := (hyr.below hbw (Nat.le_refl _)).i_at hly
    have hup := fun he => same_upto HL.out HT.out hlt he
    have hdn : x[k]?.getD 0 ≠ y[k]?.getD 0 → x ≠ y := fun h e => h (by rw [e])
    generalize x[k]?.getD 0 = a at *
    generalize y[k]?.getD 0 = b at *
    have HU := Lib.hid hup
    have HDN := Lib.hid hdn
    clear hup hdn
    have hk1 : (0 : Int) ≤ (k : Int) := by omega
    have hk2 : (k : Int) < (x.length : Int) := by omega
    have hk3 : (k : Int) < (y.length : Int) := by omega
    by_cases hab : a = b
    ·have hab' : (a != b) = false := by simp [hab]
     have HAB : Box (a = b) := ⟨hab⟩
     clear hab
     go_wp2
     go_quiet (fail)
     go_wp2
     go_roundw
     case rel => exact ⟨k + 1, by omega, by go_num, ⟨HU.out HAB.out⟩, below_drewN hbw _⟩
     case measure => simp [intOf]; omega
    ·have hab' : (a != b) = true := by simp [hab]
     have HE : Box (sameB x y = false) := ⟨by rw [HS.out, decide_eq_false (HDN.out hab)]⟩
     go_wp2
     go_quiet (fail)
     go_wp2
     go_ret
     exact ⟨ret1 (congrArg Value.bool HE.out.symm), below_drewN hbw _⟩
   ·obtain rfl : k = x.length := by omega
    have HE : Box (sameB x y = true) := ⟨by
     have h := HT.out
     rw [List.take_of_length_le (Nat.le_refl _), List.take_of_length_le (by rw [HL.out]; exact Nat.le_refl _)] at h
     rw [HS.out, decide_eq_true h]⟩
    go_wp2
    go_ret
    exact ⟨ret1 (congrArg Value.bool HE.out.symm), hbw⟩
 ·have hne : ((x.length : Int) != (y.length : Int)) = true := by rw [bne_iff_ne]; omega
  have HE : Box (sameB x y = false) := ⟨by rw [HS.out, decide_eq_false (fun e => hl (by rw [e]))]⟩
  go_enter Tryz.func54, Tryz.ntmps54
  go_wp2
  go_ret
  exact ⟨ret1 (congrArg Value.bool HE.out.symm), Below.refl _ _⟩
set_option maxRecDepth 100000 in
set_option maxHeartbeats 4000000 in
theorem eqEvU (x y : Ev) (A1 A2 : Option Addr) (c1 c2 : Nat) (w : World) (h1 : NotesU w A1 x.notes) (h2 : NotesU w A2 y.notes) (hl : x.notes.length ≤ 1000000) :
  Calls Tryz.prog 49 #[.agg #[.string ⟨x.num.toArray⟩, .string ⟨x.den.toArray⟩, .slice A1 x.notes.length c1], .agg #[.string ⟨y.num.toArray⟩, .string ⟨y.den.toArray⟩, .slice A2 y.notes.length c2]] w fun e w' => e = .returned (.bool (dq x y)) ∧ Below w.heap.size w w' := by
 have HOUT : Box (dq x y = (((x.num == y.num) && (x.den == y.den)) && rowsEq x.notes y.notes)) := ⟨by rw [dq_ev, dq_pair, dq_rows]⟩
 obtain ⟨W0, hW0⟩ : ∃ W0, W0 = (w.alloc (.cells #[.string ⟨x.num.toArray⟩, .string ⟨x.den.toArray⟩, .slice A1 x.notes.length c1] 54)).alloc (.cells #[.string ⟨y.num.toArray⟩, .string ⟨y.den.toArray⟩, .slice A2 y.notes.length c2] 54) := ⟨_, rfl⟩
 have hb0 : Below w.heap.size w W0 := by rw [hW0]; exact ((Below.refl _ _).alloc (Nat.le_refl _) _).alloc (by simp) _
 have HX1 : Hid (Cells W0 w.heap.size 54 [.string ⟨x.num.toArray⟩, .string ⟨x.den.toArray⟩, .slice A1 x.notes.length c1]) := Lib.hid (by rw [hW0]; exact (Cells.new w 54 #[.string ⟨x.num.toArray⟩, .string ⟨x.den.toArray⟩, .slice A1 x.notes.length c1]).alloc _)
 have HX2 : Hid (Cells W0 (w.heap.size + 1) 54 [.string ⟨y.num.toArray⟩, .string ⟨y.den.toArray⟩, .slice A2 y.notes.length c2]) := Lib.hid (by
  have h := Cells.new (w.alloc (.cells #[.string ⟨x.num.toArray⟩, .string ⟨x.den.toArray⟩, .slice A1 x.notes.length c1] 54)) 54 #[.string ⟨y.num.toArray⟩, .string ⟨y.den.toArray⟩, .slice A2 y.notes.length c2]
  rw [World.size_alloc] at h
  rw [hW0]
  exact h)
 have HN1 := Lib.hid (NotesU.lift h1 hb0)
 have HN2 := Lib.hid (NotesU.lift h2 hb0)
 have HQ := Lib.hid (eqFunc_row A1 A2 c1 c2 x.notes y.notes W0 (NotesU.rows (NotesU.lift h1 hb0) (Nat.le_refl _)) (NotesU.rows (NotesU.lift h2 hb0) (Nat.le_refl _)) hl)
 have HB0 := Lib.hid hb0
 clear h1 h2 hb0
 have heq : ∀ W, (binOp .eql 51 (.agg #[.string ⟨x.num.toArray⟩, .string ⟨x.den.toArray⟩]) (.agg #[.string ⟨y.num.toArray⟩, .string ⟨y.den.toArray⟩])).run Tryz.prog W = .ok (.bool ((x.num == y.num) && (x.den == y.den))) W := fun W => rat_eql _ _ _ _ W
 generalize dq x y = out at *
 generalize ((x.num == y.num) && (x.den == y.den)) = hd at *
 generalize rowsEq x.notes y.notes = rs at *
 generalize hxl : x.notes.length = xl at *
 generalize hyl : y.notes.length = yl at *
 clear hxl hyl
 go_enter Tryz.func49, Tryz.ntmps49
 go_upto_region 1 with (fail)
 rw [← hW0]
 clear hW0
 obtain ⟨z0, z1, z2⟩ := cel3 HX1.out
 obtain ⟨y0, y1, y2⟩ := cel3 HX2.out
 cases hd with
 | false =>
   have HF : Box (out = false) := ⟨by rw [HOUT.out, Bool.false_and]⟩
   go_wp2_with fail
   go_ret
   exact ⟨ret1 (congrArg Value.bool HF.out.symm), HB0.out⟩
 | true =>
   have HF : Box (out = rs) := ⟨by rw [HOUT.out, Bool.true_and]⟩
   go_wp2_with fail
   refine HQ.out.mono ?_
   rintro e w1 ⟨rfl, hb1⟩
   go_wp2_with fail
   go_ret
   exact ⟨ret1 (congrArg Value.bool HF.out.symm), HB0.out.trans (hb1.mono HB0.out.size)⟩
set_option maxRecDepth 100000 in
set_option maxHeartbeats 4000000 in
theorem eqFuncEvU (A1 A2 : Option Addr) (c1 c2 : Nat) (l m : List Ev) (w : World) (h1 : EvsU w A1 l) (h2 : EvsU w A2 m) (hl : l.length ≤ 1000000) (hx : ∀ x ∈ l, x.notes.length ≤ 1000000) :
  Calls Tryz.prog 53 #[.slice A1 l.length c1, .slice A2 m.length c2, .func (.func 49) #[] #[]] w fun e w' => e = .returned (.bool (dq l m)) ∧ Below w.heap.size w w' := by
 have H1 := Lib.hid h1
 have H2 := Lib.hid h2
 have HX := Box.mk hx
 clear hx
 clear h1 h2
 by_cases hlm : l.length = m.length
 ·have hne : ((l.length : Int) != (m.length : Int)) = false := by simp [hlm]
  have HLM : Box (l.length = m.length) := ⟨hlm⟩
  clear hlm
  obtain ⟨out, HO⟩ : ∃ out, Box (dq (l.drop 0) (m.drop 0) = out ∧ dq l m = out) := ⟨_, ⟨rfl, rfl⟩⟩
  rw [HO.out.2]
  go_enter Tryz.func53, Tryz.ntmps53
  go_wp2_with fail
  go_loopw [17] (fun i wr => ∃ k : Nat, k ≤ l.length ∧ i = .int .i64 k ∧ Box (dq (l.drop k) (m.drop k) = out) ∧ Below w.heap.size w wr) (fun i _ => l.length - (intOf i).toNat)
  case atStart => exact ⟨0, Nat.zero_le _, rfl, ⟨HO.out.1⟩, Below.refl _ _⟩
  case round =>
   obtain ⟨k, hk, rfl, HK, hbw⟩ := hrel
   by_cases hlt : k < l.length
   ·have hlt2 : k < m.length := by rw [← HLM.out]; exact hlt
    obtain ⟨b1, o1, A1, C1, rfl, _, _, p0, p1, p2, _, _, hn1⟩ := (EvsU.lift H1.out hbw).at_ hlt
    obtain ⟨b2, o2, A2, C2, rfl, _, _, q0, q1, q2, _, _, hn2⟩ := (EvsU.lift H2.out hbw).at_ hlt2
    have HS : Box (out = (dq (l[k]'hlt) (m[k]'hlt2) && dq (l.drop (k + 1)) (m.drop (k + 1)))) := ⟨by rw [← HK.out, dq_drop hlt hlt2]⟩
    have HXL := HX.out _ (List.getElem_mem hlt)
    have HE := Lib.hid (fun W (_ : Below wr.heap.size wr W) h1 h2 => eqEvU (l[k]'hlt) (m[k]'hlt2) A1 A2 C1 C2 W h1 h2 HXL)
    clear HXL
    generalize l[k]'hlt = t1 at *
    generalize m[k]'hlt2 = t2 at *
    have HR1 := Lib.hid hn1
    have HR2 := Lib.hid hn2
    generalize dq t1 t2 = tb at *
    have hk2 : (k : Int) < (m.length : Int) := by omega
    have hba : Below wr.heap.size wr ((wr.alloc (.cells #[.string ⟨t1.num.toArray⟩, .string ⟨t1.den.toArray⟩, .slice A1 t1.notes.length C1] 54)).alloc (.cells #[.string ⟨t2.num.toArray⟩, .string ⟨t2.den.toArray⟩, .slice A2 t2.notes.length C2] 54)) := ((Below.refl _ _).alloc (Nat.le_refl _) _).alloc (by simp) _
    have HBA := Lib.hid hba
    clear hn1 hn2 hba
    cases tb with
    | false =>
      have HF : Box (out = false) := ⟨by rw [HS.out]; rfl⟩
      clear HS HK HO
      go_wp2_with fail
      refine (HE.out _ HBA.out (NotesU.lift HR1.out HBA.out) (NotesU.lift HR2.out HBA.out)).mono ?_
      rintro e w1 ⟨rfl, hb1⟩
      have hbn := hbw.trans ((HBA.out.trans (hb1.mono HBA.out.size)).mono hbw.size)
      clear hb1
      go_wp2_with fail
      go_ret
      exact ⟨ret1 (congrArg Value.bool HF.out.symm), hbn⟩
    | true =>
      have HF : Box (dq (l.drop (k + 1)) (m.drop (k + 1)) = out) := ⟨by rw [HS.out]; rfl⟩
      clear HS HK HO
      go_wp2_with fail
      refine (HE.out _ HBA.out (NotesU.lift HR1.out HBA.out) (NotesU.lift HR2.out HBA.out)).mono ?_
      rintro e w1 ⟨rfl, hb1⟩
      have hbn := hbw.trans ((HBA.out.trans (hb1.mono HBA.out.size)).mono hbw.size)
      clear hb1
      go_wp2_with fail
      go_roundw
      case rel => exact ⟨k + 1, by omega, by go_num, HF, hbn⟩
      case measure => simp [intOf]; omega
   ·obtain rfl : k = l.length := by omega
    have HF : Box (out = true) := ⟨by rw [← HK.out, List.drop_length, HLM.out, List.drop_length]; exact dq_self _⟩
    go_wp2_with fail
    go_ret
    exact ⟨ret1 (congrArg Value.bool HF.out.symm), hbw⟩
 ·have hne : ((l.length : Int) != (m.length : Int)) = true := by rw [bne_iff_ne]; omega
  have HE : Box (dq l m = false) := ⟨dq_len hlm⟩
  go_enter Tryz.func53, Tryz.ntmps53
  go_wp2_with fail
  go_ret
  exact ⟨ret1 (congrArg Value.bool HE.out.symm), Below.refl _ _⟩
set_option maxRecDepth 100000 in
set_option maxHeartbeats 4000000 in
theorem eqVcU (g : Nat) (x y : Vc) (A1 A2 : Option Addr) (c1 c2 : Nat) (w : World) (hg : w.cell? ⟨g, 0, Option.none⟩ = some (.func (.func 49) #[] #[])) (h1 : EvsU w A1 x.evs) (h2 : EvsU w A2 y.evs) (hl : x.evs.length ≤ 1000000) (hx : ∀ e ∈ x.evs, e.notes.length ≤ 1000000) :
  Calls Tryz.prog 52 #[.agg #[.string ⟨x.name.toArray⟩, .slice A1 x.evs.length c1], .agg #[.string ⟨y.name.toArray⟩, .slice A2 y.evs.length c2], .pointer (some ⟨g, 0, Option.none⟩)] w fun e w' => e = .returned (.bool (dq x y)) ∧ Below w.heap.size w w' := by
 have HOUT : Box (dq x y = ((x.name == y.name) && dq x.evs y.evs)) := ⟨by rw [dq_vc, dq_str]⟩
 obtain ⟨W0, hW0⟩ : ∃ W0, W0 = (w.alloc (.cells #[.string ⟨x.name.toArray⟩, .slice A1 x.evs.length c1] 48)).alloc (.cells #[.string ⟨y.name.toArray⟩, .slice A2 y.evs.length c2] 48) := ⟨_, rfl⟩
 have hb0 : Below w.heap.size w W0 := by rw [hW0]; exact ((Below.refl _ _).alloc (Nat.le_refl _) _).alloc (by simp) _
 have HX1 : Hid (Cells W0 w.heap.size 48 [.string ⟨x.name.toArray⟩, .slice A1 x.evs.length c1]) := Lib.hid (by rw [hW0]; exact (Cells.new w 48 #[.string ⟨x.name.toArray⟩, .slice A1 x.evs.length c1]).alloc _)
 have HX2 : Hid (Cells W0 (w.heap.size + 1) 48 [.string ⟨y.name.toArray⟩, .slice A2 y.evs.length c2]) := Lib.hid (by
  have h := Cells.new (w.alloc (.cells #[.string ⟨x.name.toArray⟩, .slice A1 x.evs.length c1] 48)) 48 #[.string ⟨y.name.toArray⟩, .slice A2 y.evs.length c2]
  rw [World.size_alloc] at h
  rw [hW0]
  exact h)
 have HQ := Lib.hid (eqFuncEvU A1 A2 c1 c2 x.evs y.evs W0 (EvsU.lift h1 hb0) (EvsU.lift h2 hb0) hl hx)
 have hgc := keep_cell hg hb0
 have HB0 := Lib.hid hb0
 clear h1 h2 hb0 hg hx
 generalize dq x y = out at *
 generalize dq x.evs y.evs = rs at *
 generalize hxl : x.evs.length = xl at *
 generalize hyl : y.evs.length = yl at *
 clear hxl hyl
 go_enter Tryz.func52, Tryz.ntmps52
 go_upto_region 1 with (fail)
 rw [← hW0]
 clear hW0
 obtain ⟨z0, z1⟩ := cel2 HX1.out
 obtain ⟨y0, y1⟩ := cel2 HX2.out
 cases hnm : (x.name == y.name) with
 | false =>
   have HF : Box (out = false) := ⟨by rw [HOUT.out, hnm, Bool.false_and]⟩
   clear HOUT
   go_wp2_with fail
   go_ret
   exact ⟨ret1 (congrArg Value.bool HF.out.symm), HB0.out⟩
 | true =>
   have HF : Box (out = rs) := ⟨by rw [HOUT.out, hnm, Bool.true_and]⟩
   clear HOUT
   go_wp2_with fail
   refine HQ.out.mono ?_
   rintro e w1 ⟨rfl, hb1⟩
   go_wp2_with fail
   go_ret
   exact ⟨ret1 (congrArg Value.bool HF.out.symm), HB0.out.trans (hb1.mono HB0.out.size)⟩
set_option maxRecDepth 100000 in
set_option maxHeartbeats 4000000 in
theorem eqFuncVcU (g : Nat) (A1 A2 : Option Addr) (c1 c2 : Nat) (l m : List Vc) (w : World) (h1 : VcsU w A1 l) (h2 : VcsU w A2 m) (hl : l.length ≤ 1000000) (hg : w.cell? ⟨g, 0, Option.none⟩ = some (.func (.func 49) #[] #[])) (hx : ∀ x ∈ l, x.evs.length ≤ 1000000 ∧ ∀ e ∈ x.evs, e.notes.length ≤ 1000000) :
  Calls Tryz.prog 55 #[.slice A1 l.length c1, .slice A2 m.length c2, .func (.func 52) #[] #[.pointer (some ⟨g, 0, Option.none⟩)]] w fun e w' => e = .returned (.bool (dq l m)) ∧ Below w.heap.size w w' := by
 have H1 := Lib.hid h1
 have H2 := Lib.hid h2
 have HX := Box.mk hx
 have HG := Lib.hid hg
 clear hx hg
 clear h1 h2
 by_cases hlm : l.length = m.length
 ·have hne : ((l.length : Int) != (m.length : Int)) = false := by simp [hlm]
  have HLM : Box (l.length = m.length) := ⟨hlm⟩
  clear hlm
  obtain ⟨out, HO⟩ : ∃ out, Box (dq (l.drop 0) (m.drop 0) = out ∧ dq l m = out) := ⟨_, ⟨rfl, rfl⟩⟩
  rw [HO.out.2]
  go_enter Tryz.func55, Tryz.ntmps55
  go_wp2_with fail
  go_loopw [17] (fun i wr => ∃ k : Nat, k ≤ l.length ∧ i = .int .i64 k ∧ Box (dq (l.drop k) (m.drop k) = out) ∧ Below w.heap.size w wr) (fun i _ => l.length - (intOf i).toNat)
  case atStart => exact ⟨0, Nat.zero_le _, rfl, ⟨HO.out.1⟩, Below.refl _ _⟩
  case round =>
   obtain ⟨k, hk, rfl, HK, hbw⟩ := hrel
   by_cases hlt : k < l.length
   ·have hlt2 : k < m.length := by rw [← HLM.out]; exact hlt
    obtain ⟨b1, o1, A1, C1, rfl, _, _, p0, p1, _, _, hn1⟩ := (VcsU.lift H1.out hbw).at_ hlt
    obtain ⟨b2, o2, A2, C2, rfl, _, _, q0, q1, _, _, hn2⟩ := (VcsU.lift H2.out hbw).at_ hlt2
    have HS : Box (out = (dq (l[k]'hlt) (m[k]'hlt2) && dq (l.drop (k + 1)) (m.drop (k + 1)))) := ⟨by rw [← HK.out, dq_drop hlt hlt2]⟩
    have HXL := HX.out _ (List.getElem_mem hlt)
    have hgc := keep_cell HG.out hbw
    have HE := Lib.hid (fun W (hb : Below wr.heap.size wr W) h1 h2 => eqVcU g (l[k]'hlt) (m[k]'hlt2) A1 A2 C1 C2 W (keep_cell hgc hb) h1 h2 HXL.1 HXL.2)
    clear HXL hgc
    generalize l[k]'hlt = t1 at *
    generalize m[k]'hlt2 = t2 at *
    have HR1 := Lib.hid hn1
    have HR2 := Lib.hid hn2
    generalize dq t1 t2 = tb at *
    have hk2 : (k : Int) < (m.length : Int) := by omega
    have hba : Below wr.heap.size wr ((wr.alloc (.cells #[.string ⟨t1.name.toArray⟩, .slice A1 t1.evs.length C1] 48)).alloc (.cells #[.string ⟨t2.name.toArray⟩, .slice A2 t2.evs.length C2] 48)) := ((Below.refl _ _).alloc (Nat.le_refl _) _).alloc (by simp) _
    have HBA := Lib.hid hba
    clear hn1 hn2 hba
    cases tb with
    | false =>
      have HF : Box (out = false) := ⟨by rw [HS.out]; rfl⟩
      clear HS HK HO
      go_wp2_with fail
      refine (HE.out _ HBA.out (EvsU.lift HR1.out HBA.out) (EvsU.lift HR2.out HBA.out)).mono ?_
      rintro e w1 ⟨rfl, hb1⟩
      have hbn := hbw.trans ((HBA.out.trans (hb1.mono HBA.out.size)).mono hbw.size)
      clear hb1
      go_wp2_with fail
      go_ret
      exact ⟨ret1 (congrArg Value.bool HF.out.symm), hbn⟩
    | true =>
      have HF : Box (dq (l.drop (k + 1)) (m.drop (k + 1)) = out) := ⟨by rw [HS.out]; rfl⟩
      clear HS HK HO
      go_wp2_with fail
      refine (HE.out _ HBA.out (EvsU.lift HR1.out HBA.out) (EvsU.lift HR2.out HBA.out)).mono ?_
      rintro e w1 ⟨rfl, hb1⟩
      have hbn := hbw.trans ((HBA.out.trans (hb1.mono HBA.out.size)).mono hbw.size)
      clear hb1
      go_wp2_with fail
      go_roundw
      case rel => exact ⟨k + 1, by omega, by go_num, HF, hbn⟩
      case measure => simp [intOf]; omega
   ·obtain rfl : k = l.length := by omega
    have HF : Box (out = true) := ⟨by rw [← HK.out, List.drop_length, HLM.out, List.drop_length]; exact dq_self _⟩
    go_wp2_with fail
    go_ret
    exact ⟨ret1 (congrArg Value.bool HF.out.symm), hbw⟩
 ·have hne : ((l.length : Int) != (m.length : Int)) = true := by rw [bne_iff_ne]; omega
  have HE : Box (dq l m = false) := ⟨dq_len hlm⟩
  go_enter Tryz.func55, Tryz.ntmps55
  go_wp2_with fail
  go_ret
  exact ⟨ret1 (congrArg Value.bool HE.out.symm), Below.refl _ _⟩
set_option maxRecDepth 100000 in
set_option maxHeartbeats 4000000 in
theorem scEqualU (pv1 vv1 pv2 vv2 : Value) (s t : Sc) (w : World) (h1 : ScU w pv1 vv1 s) (h2 : ScU w pv2 vv2 t) (hv : s.voices.length ≤ 1000000) (he : ∀ v ∈ s.voices, v.evs.length ≤ 1000000 ∧ ∀ x ∈ v.evs, x.notes.length ≤ 1000000) :
  Calls Tryz.prog 19 #[.agg #[pv1, vv1], .agg #[pv2, vv2]] w fun e w' => e = .returned (.bool (dq s t)) ∧ Below w.heap.size w w' := by
 obtain ⟨hp1, AV, cV, rfl, hc1, hm1, hvt1⟩ := h1
 obtain ⟨hp2, BV, dV, rfl, hc2, hm2, hvt2⟩ := h2
 have HP1 := Lib.hid hp1
 have HP2 := Lib.hid hp2
 obtain ⟨AP, cp, rfl, _⟩ := hp1.shape
 obtain ⟨BP, dp, rfl, _⟩ := hp2.shape
 have HOUT : Box (dq s t = (sameB s.primes t.primes && dq s.voices t.voices)) := ⟨by rw [dq_sc, dq_row]⟩
 obtain ⟨W0, hW0⟩ : ∃ W0, W0 = ((w.alloc (.cells #[.slice AP s.primes.length cp, .slice AV s.voices.length cV] 29)).alloc (.cells #[.slice BP t.primes.length dp, .slice BV t.voices.length dV] 29)).alloc (.cells #[.func (.func 49) #[] #[]] 121) := ⟨_, rfl⟩
 have hb0 : Below w.heap.size w W0 := by rw [hW0]; exact (((Below.refl _ _).alloc (Nat.le_refl _) _).alloc (by simp) _).alloc (by simp; omega) _
 have HX1 : Hid (Cells W0 w.heap.size 29 [.slice AP s.primes.length cp, .slice AV s.voices.length cV]) := Lib.hid (by rw [hW0]; exact ((Cells.new w 29 #[.slice AP s.primes.length cp, .slice AV s.voices.length cV]).alloc _).alloc _)
 have HX2 : Hid (Cells W0 (w.heap.size + 1) 29 [.slice BP t.primes.length dp, .slice BV t.voices.length dV]) := Lib.hid (by
  have h := Cells.new (w.alloc (.cells #[.slice AP s.primes.length cp, .slice AV s.voices.length cV] 29)) 29 #[.slice BP t.primes.length dp, .slice BV t.voices.length dV]
  rw [World.size_alloc] at h
  rw [hW0]
  exact h.alloc _)
 have HG : Hid (W0.cell? ⟨w.heap.size + 1 + 1, 0, Option.none⟩ = some (.func (.func 49) #[] #[])) := Lib.hid (by
  have h := (Cells.new ((w.alloc (.cells #[.slice AP s.primes.length cp, .slice AV s.voices.length cV] 29)).alloc (.cells #[.slice BP t.primes.length dp, .slice BV t.voices.length dV] 29)) 121 #[.func (.func 49) #[] #[]]).cell 0
  simp only [World.size_alloc] at h
  rw [hW0]
  exact h)
 have HB0 := Lib.hid hb0
 have HV1 := Lib.hid (VcsU.lift hvt1 hb0)
 have HV2 := Lib.hid (VcsU.lift hvt2 hb0)
 have HPE := Lib.hid (slEqP_any (.slice AP s.primes.length cp) (.slice BP t.primes.length dp) s.primes t.primes W0 (hp1.lift hb0).row (hp2.lift hb0).row)
 have HVE := Lib.hid (fun W (hb : Below W0.heap.size W0 W) => eqFuncVcU (w.heap.size + 1 + 1) AV BV cV dV s.voices t.voices W (VcsU.lift HV1.out hb) (VcsU.lift HV2.out hb) hv (keep_cell HG.out hb) he)
 clear hp1 hp2 hvt1 hvt2 hb0 he
 generalize dq s t = out at *
 generalize dq s.voices t.voices = vs at *
 go_enter Tryz.func19, Tryz.ntmps19
 go_upto_region 2 with (fail)
 rw [← hW0]
 clear hW0
 obtain ⟨z0, z1⟩ := cel2 HX1.out
 obtain ⟨y0, y1⟩ := cel2 HX2.out
 have g0 := HG.out
 go_wp2_with fail
 refine HPE.out.mono ?_
 rintro e w1 ⟨rfl, hb1⟩
 have HB1 := Lib.hid hb1
 replace z1 := keep_cell z1 hb1
 replace y1 := keep_cell y1 hb1
 replace g0 := keep_cell g0 hb1
 clear z0 y0 hb1
 cases hsb : sameB s.primes t.primes with
 | false =>
   have HF : Box (out = false) := ⟨by rw [HOUT.out, hsb, Bool.false_and]⟩
   clear HOUT hsb
   go_wp2_with fail
   go_ret
   exact ⟨ret1 (congrArg Value.bool HF.out.symm), HB0.out.trans (HB1.out.mono HB0.out.size)⟩
 | true =>
   have HF : Box (out = vs) := ⟨by rw [HOUT.out, hsb, Bool.true_and]⟩
   clear HOUT hsb
   go_wp2_with fail
   refine (HVE.out _ HB1.out).mono ?_
   rintro e w2 ⟨rfl, hb2⟩
   go_wp2_with fail
   go_ret
   exact ⟨ret1 (congrArg Value.bool HF.out.symm), HB0.out.trans ((HB1.out.trans (hb2.mono HB1.out.size)).mono HB0.out.size)⟩
end Go.Proofs.YtaaeekahhhookaaGreatDoor
