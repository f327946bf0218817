import Derived.Test.YtaaeekahhhookaaGreatDoorGOMCk
import Derived.Test.YtaaeekahhhookaaGreatDoorGXPMCk
import Derived.Test.YtaaeekahhhookaaGreatDoorGIMCk
import Derived.BigQuiet
import Derived.Deep.RegionHeld3
import Derived.Test.YtaaeekahhhookaaGreatDoorSayMCk
import Derived.Laws.AppendOwnNone
import Derived.Deep.AppendLies
import Derived.Deep.RegionLaw
namespace Go.Proofs.YtaaeekahhhookaaGreatDoor
open Go.RowKit Go.Lib
def Strm (w : World) (g : Nat) (sl : Value) (p : Int) : Prop := Cells w g 196 [sl, .int .i64 p]
theorem Strm.cells {w : World} {g : Nat} {sl : Value} {p : Int} (h : Strm w g sl p) : w.cell? ⟨g, 0, Option.none⟩ = some sl ∧ w.cell? ⟨g, 1, Option.none⟩ = some (.int .i64 p) := ⟨Cells.cell h 0, Cells.cell h 1⟩
theorem mark_any (g : Nat) (sl : Value) (p : Int) (w : World) (h : Strm w g sl p) :
  Calls Tryz.prog 82 #[.pointer (some ⟨g, 0, Option.none⟩)] w fun e w' => e = .returned (.int .i64 p) ∧ w = w' := by
 obtain ⟨c0, c1⟩ := h.cells
 clear h
 go_enter Tryz.func82, Tryz.ntmps82
 go_wp2_with fail
 go_ret
 exact ⟨rfl, rfl⟩
def nI (l : List Nat) : List Int := l.map Int.ofNat
theorem nI_len (l : List Nat) : (nI l).length = l.length := by simp [nI]
theorem nI_take (l : List Nat) (k : Nat) : (nI l).take k = nI (l.take k) := by simp [nI, List.map_take]
theorem TRow.trim {w : World} {A : Option Addr} {c n : Nat} {l : List Nat} (h : TRow w (.slice A n c) (nI l)) (hp : Pcs l) : TRow w (.slice A (pcs (pv l)).length c) (pcsI (pv l)) := by
 obtain ⟨h1, h2⟩ := trim_take l hp
 have h3 := h.cut (k := (pcs (pv l)).length) (by rw [nI_len]; exact h1)
 rw [nI_take, h2] at h3
 exact h3
theorem TRow.of_cells {w : World} {g n : Nat} {x : List Int} (h : Cells w g 3 (is x)) (hn : x.length = n) (hm : n ≤ maxLen) : TRow w (.slice (some ⟨g, 0, Option.none⟩) n n) x := by
 subst hn
 refine ⟨_, _, rfl, Nat.le_refl _, hm, fun _ => ⟨g, 0, _, _, rfl, h, fun k hk => ?_⟩⟩
 rw [Nat.zero_add, h.cell k]
 unfold is
 rw [List.getElem?_map, List.getElem?_eq_getElem hk]
 rfl
set_option maxRecDepth 100000 in
set_option maxHeartbeats 1000000 in
theorem clone_any (v : Value) (x : List Int) (w : World) (h : IsRow w w.heap.size v x) (hx : x.length ≤ 1000) :
  Calls Tryz.prog 72 #[v] w fun e w' => (∃ A c, e = .returned (.slice A x.length c) ∧ TRow w' (.slice A x.length c) x) ∧ Below w.heap.size w w' := by
 obtain ⟨i0, hi0, hz0, hz1, hz2⟩ := info_parts Tryz.info_int
 obtain ⟨A, c, rfl, h1, h2, hr⟩ := h
 have hE := fun W => Lib.run_eql_slice_nil (P := Tryz.prog) W 40 3 A x.length c 0 0 Tryz.underlying40
 cases A with
 | none =>
   have hx0 : x.length = 0 := by
    rcases Nat.eq_zero_or_pos x.length with h | h
    ·exact h
    ·obtain ⟨ad, hn, _⟩ := hr.2 0 (.int .i64 (x[0]?.getD 0)) (by unfold is; rw [List.getElem?_map, List.getElem?_eq_getElem h]; rfl)
     cases hn
   rw [hx0] at hE ⊢
   go_enter Tryz.func72, Tryz.ntmps72
   go_wp2_with fail
   go_ret
   exact ⟨⟨_, _, rfl, Option.none, 0, by rw [hx0], by omega, Nat.zero_le _, fun h => by omega⟩, Below.refl _ _⟩
 | some ad =>
   have hcells : ∀ (j : Nat) u, (is x)[j]? = some u → (w.alloc (.cells #[] 3)).cell? (ad.add j) = some u := fun j u hu => by
    obtain ⟨ad', e, hb, hc⟩ := hr.2 j u hu
    injection e with e
    subst e
    exact keep_cell hc ((Below.refl w.heap.size w).alloc (Nat.le_refl _) _)
   have hown : (w.alloc (.cells #[] 3)).ownsRow w.heap.size 3 1 (.slice (some ⟨w.heap.size, 0, Option.none⟩) 0 0) 0 [] := Cells.own (k := 0) (Cells.new w 3 #[]) (Nat.le_refl _) rfl (Nat.zero_le _) (Nat.le_refl _)
   have HO := Lib.hid hown
   have HC := Lib.hid hcells
   clear hown hcells hr
   go_enter Tryz.func72, Tryz.ntmps72
   go_wp2_with (at_builtin; refine wpList_append_own _ rfl _ _ _ rfl w.heap.size 3 i0 (.int .i64 0) 1 8 Tryz.underlying40 hi0 hz0 hz1 hz2 rfl (by decide) _ _ _ rfl HO.out ad x.length c (is x) rfl (by simp [is]) HC.out (by intro u hu; unfold is at hu; obtain ⟨z, _, rfl⟩ := List.mem_map.1 hu; rfl) (by unfold maxLen; omega) (by omega) (by simp) ?_; intro v3 w3 hown3 hg3 _)
   rw [List.nil_append, Nat.zero_add] at hown3
   have ht := TRow.of_own (x := x) hown3
   obtain ⟨A3, c3, rfl, _⟩ := id ht
   have hbw : Below w.heap.size w w3 := ((Below.refl w.heap.size w).alloc (Nat.le_refl _) (.cells #[] 3)).grown hg3 (by simp) (fun k hk => (HO.out.lt k hk).1)
   go_wp2_with fail
   go_ret
   exact ⟨⟨_, _, rfl, ht⟩, hbw⟩
set_option maxRecDepth 100000 in
set_option maxHeartbeats 4000000 in
theorem peek_some (g k c : Nat) (A : Option Addr) (l : List Tok) (t : Tok) (w : World) (h : Strm w g (.slice A l.length c) k) (ht : IsToks w w.heap.size (.slice A l.length c) l) (hk : k < l.length) (hg : l[k]? = some t) (hr : t.row.length ≤ 1000) :
  Calls Tryz.prog 126 #[.pointer (some ⟨g, 0, Option.none⟩)] w fun e w' => (∃ A' c', e = .returned (.tuple #[.agg #[.int .i64 t.kind, .string ⟨t.text.toArray⟩, .string ⟨t.num.toArray⟩, .string ⟨t.den.toArray⟩, .slice A' t.row.length c', .int .i64 t.line, .int .i64 t.col], .bool true]) ∧ TRow w' (.slice A' t.row.length c') t.row) ∧ Below w.heap.size w w' := by
 have hba : Below w.heap.size w (w.alloc (.cells #[.int .i64 0, .string ⟨#[]⟩, .string ⟨#[]⟩, .string ⟨#[]⟩, .slice Option.none 0 0, .int .i64 0, .int .i64 0] 92)) := (Below.refl _ _).alloc (Nat.le_refl _) _
 have hs := h.below hba h.lt
 obtain ⟨c0, c1⟩ := Strm.cells hs
 obtain ⟨b1, o1, r1, e1, hb1, hr1, hc1⟩ := IsToks.at_ (ht.lift hba) hk
 obtain rfl : l[k] = t := by rw [List.getElem?_eq_getElem hk] at hg; exact Option.some.inj hg
 subst e1
 generalize l[k]'hk = t at *
 obtain ⟨A1, C1, e1, _⟩ := id hr1
 subst e1
 have p0 := hc1 0 (by omega)
 have p1 := hc1 1 (by omega)
 have p2 := hc1 2 (by omega)
 have p3 := hc1 3 (by omega)
 have p4 := hc1 4 (by omega)
 have p5 := hc1 5 (by omega)
 have p6 := hc1 6 (by omega)
 simp only [tokVals, List.getElem?_cons_succ, List.getElem?_cons_zero, Nat.add_zero] at p0 p1 p2 p3 p4 p5 p6
 have HR := Lib.hid hr1
 have hki : (k : Int) < (l.length : Int) := by omega
 have hkn : ((k : Int) == (l.length : Int)) = false := by rw [beq_eq_false_iff_ne]; omega
 have hnew := Cells.new w 92 #[.int .i64 0, .string ⟨#[]⟩, .string ⟨#[]⟩, .string ⟨#[]⟩, .slice Option.none 0 0, .int .i64 0, .int .i64 0]
 have HB := Lib.hid hba
 have HN := Lib.hid hnew
 clear hba hs h ht hc1 hr1 hb1 hg hnew
 obtain ⟨k0, x0, n0, d0, r0, l0, o0⟩ := t
 dsimp only at *
 go_enter Tryz.func126, Tryz.ntmps126
 go_wp2_with fail
 obtain ⟨W, hW⟩ : ∃ W, W = w.alloc (.cells #[.int .i64 0, .string ⟨#[]⟩, .string ⟨#[]⟩, .string ⟨#[]⟩, .slice Option.none 0 0, .int .i64 0, .int .i64 0] 92) := ⟨_, rfl⟩
 rw [← hW] at HB HN HR c0 c1 p0 p1 p2 p3 p4 p5 p6 ⊢
 clear hW
 go_quiet (fail)
 go_wp2_with fail
 have HB2 : Hid (Below w.heap.size w (W.drewN nq)) := Lib.hid (below_drewN HB.out nq)
 have HN2 : Hid (Cells (W.drewN nq) w.heap.size 92 [.int .i64 0, .string ⟨#[]⟩, .string ⟨#[]⟩, .string ⟨#[]⟩, .slice Option.none 0 0, .int .i64 0, .int .i64 0]) := Lib.hid HN.out
 have HR2 : Hid (IsRow (W.drewN nq) (W.drewN nq).heap.size (.slice A1 r0.length C1) r0) := Lib.hid (HR.out.lift (below_drewN (Below.refl _ _) nq))
 change (W.drewN nq).cell? _ = _ at c0 c1 p0 p1 p2 p3 p4 p5 p6
 generalize W.drewN nq = V at *
 clear HB HN HR
 have m0 := World.new_ne V _ p0
 have m1 := World.new_ne V _ c0
 go_region_held3 (fun w' => w'.cell? ⟨g, 0, Option.none⟩ = some (.slice (some ⟨b1, o1, Option.none⟩) l.length c) ∧ w'.cell? ⟨g, 1, Option.none⟩ = some (.int .i64 (k : Int)) ∧ w'.cell? ⟨b1, o1 + k * 7, Option.none⟩ = some (.int .i64 k0) ∧ w'.cell? ⟨b1, o1 + k * 7 + 1, Option.none⟩ = some (.string ⟨x0.toArray⟩) ∧ w'.cell? ⟨b1, o1 + k * 7 + 2, Option.none⟩ = some (.string ⟨n0.toArray⟩) ∧ w'.cell? ⟨b1, o1 + k * 7 + 3, Option.none⟩ = some (.string ⟨d0.toArray⟩) ∧ w'.cell? ⟨b1, o1 + k * 7 + 4, Option.none⟩ = some (.slice A1 r0.length C1) ∧ w'.cell? ⟨b1, o1 + k * 7 + 5, Option.none⟩ = some (.int .i64 l0) ∧ w'.cell? ⟨b1, o1 + k * 7 + 6, Option.none⟩ = some (.int .i64 o0))
  (first | exact ⟨c0, c1, p0, p1, p2, p3, p4, p5, p6⟩ | go_keep)
  ((first | fail))
 clear c0 c1 p0 p1 p2 p3 p4 p5 p6 m0 m1
 have hb3 : Below V.heap.size V (V.alloc (.cells #[.int .i64 k0, .string ⟨x0.toArray⟩, .string ⟨n0.toArray⟩, .string ⟨d0.toArray⟩, .slice A1 r0.length C1, .int .i64 l0, .int .i64 o0] 92)).drew := below_to_drew ((Below.refl _ _).alloc (Nat.le_refl _) _)
 have hC3 : Cells (V.alloc (.cells #[.int .i64 k0, .string ⟨x0.toArray⟩, .string ⟨n0.toArray⟩, .string ⟨d0.toArray⟩, .slice A1 r0.length C1, .int .i64 l0, .int .i64 o0] 92)).drew V.heap.size 92 [.int .i64 k0, .string ⟨x0.toArray⟩, .string ⟨n0.toArray⟩, .string ⟨d0.toArray⟩, .slice A1 r0.length C1, .int .i64 l0, .int .i64 o0] := Cells.new V _ _
 have hR3 := HR2.out.lift hb3
 have hN3 := HN2.out.below hb3 HN2.out.lt
 have hbw := HB2.out.trans (hb3.mono HB2.out.size)
 have hlt := HN2.out.lt
 generalize (V.alloc (.cells #[.int .i64 k0, .string ⟨x0.toArray⟩, .string ⟨n0.toArray⟩, .string ⟨d0.toArray⟩, .slice A1 r0.length C1, .int .i64 l0, .int .i64 o0] 92)).drew = V3 at *
 obtain ⟨⟨q0, q1, q2, q3, q4, q5, q6⟩, _⟩ := cells7 hC3
 have HC3 := Lib.hid hC3
 have HN3 := Lib.hid hN3
 have HBW := Lib.hid hbw
 have HR3 := Lib.hid hR3
 clear hb3 hC3 hR3 hN3 hbw HB2 HN2 HR2
 go_wp2_with fail
 refine (clone_any _ r0 _ HR3.out hr).mono ?_
 rintro e w5 ⟨⟨A5, c5, rfl, ht5⟩, hb5⟩
 have hC5 := HC3.out.below hb5 HC3.out.lt
 have hN5 := HN3.out.below hb5 HN3.out.lt
 have hbw := HBW.out.trans (hb5.mono HBW.out.size)
 clear q0 q1 q2 q3 q4 q5 q6 HC3 HN3 HBW HR3 hb5
 obtain ⟨⟨q0, q1, q2, q3, q4, q5, q6⟩, f0, f1, f2, f3, f4, f5, f6⟩ := cells7 hC5
 obtain ⟨⟨z0, z1, z2, z3, z4, z5, z6⟩, y0, y1, y2, y3, y4, y5, y6⟩ := cells7 hN5
 have hne : V.heap.size ≠ w.heap.size := by omega
 have hne2 : w.heap.size ≠ V.heap.size := by omega
 have HC5 := Lib.hid hC5
 have HN5 := Lib.hid hN5
 have HT5 := Lib.hid ht5
 have HBW := Lib.hid hbw
 clear hC5 hN5 ht5 hbw
 go_wp2_with fail
 refine bodyPost_ret (v := .tuple #[.agg #[.int .i64 k0, .string ⟨x0.toArray⟩, .string ⟨n0.toArray⟩, .string ⟨d0.toArray⟩, .slice A5 r0.length c5, .int .i64 l0, .int .i64 o0], .bool true]) (by simp (maxDischargeDepth := 10) [results, Tryz.results126, go_sem, z0, z1, z2, z3, z4, z5, z6]) rfl ⟨⟨A5, c5, rfl, ?_⟩, ?_⟩
 ·have hT := HT5.out.set HC5.out (k := 4) (by decide) (.slice A5 r0.length c5)
  have hN := HN5.out.far (p := ⟨V.heap.size, 4, Option.none⟩) hne2 (.slice A5 r0.length c5)
  exact ((((((hT.set hN (by decide) _).set (hN.set 0 _) (by decide) _).set ((hN.set 0 _).set 1 _) (by decide) _).set (((hN.set 0 _).set 1 _).set 2 _) (by decide) _).set ((((hN.set 0 _).set 1 _).set 2 _).set 3 _) (by decide) _).set (((((hN.set 0 _).set 1 _).set 2 _).set 3 _).set 4 _) (by decide) _).set ((((((hN.set 0 _).set 1 _).set 2 _).set 3 _).set 4 _).set 5 _) (by decide) _
 ·exact below7 (HBW.out.setCell (by show w.heap.size ≤ V.heap.size; omega) _) _ _ _ _ _ _ _
set_option maxRecDepth 100000 in
set_option maxHeartbeats 1000000 in
theorem peek_none (g c n : Nat) (A : Option Addr) (w : World) (h : Strm w g (.slice A n c) n) :
  Calls Tryz.prog 126 #[.pointer (some ⟨g, 0, Option.none⟩)] w fun e w' => e = .returned (.tuple #[tokZA, .bool false]) ∧ Below w.heap.size w w' := by
 unfold tokZA
 have hba : Below w.heap.size w (w.alloc (.cells #[.int .i64 0, .string ⟨#[]⟩, .string ⟨#[]⟩, .string ⟨#[]⟩, .slice Option.none 0 0, .int .i64 0, .int .i64 0] 92)) := (Below.refl _ _).alloc (Nat.le_refl _) _
 have hs := h.below hba h.lt
 obtain ⟨c0, c1⟩ := Strm.cells hs
 have HB := Lib.hid hba
 clear hba hs h
 go_enter Tryz.func126, Tryz.ntmps126
 go_wp2_with fail
 go_quiet (fail)
 go_wp2_with fail
 refine bodyPost_ret (v := .tuple #[.agg #[.int .i64 0, .string ⟨#[]⟩, .string ⟨#[]⟩, .string ⟨#[]⟩, .slice Option.none 0 0, .int .i64 0, .int .i64 0], .bool false]) (by simp [results, Tryz.results126, go_sem]) rfl ⟨rfl, ?_⟩
 exact below7 (below_drewN HB.out _) _ _ _ _ _ _ _
theorem below_set_both {B : Nat} {w W : World} (h : Below B w W) (g j : Nat) (u : Value) : Below B (w.setCell ⟨g, j, Option.none⟩ u) (W.setCell ⟨g, j, Option.none⟩ u) :=
 ⟨h.os, h.tape, h.output, by have := h.size; simpa [World.setCell] using this, fun k hk => by have := h.block k hk; simp [World.setCell, Array.getElem?_modify, this]⟩
set_option maxRecDepth 100000 in
set_option maxHeartbeats 4000000 in
theorem next_some (g k c : Nat) (A : Option Addr) (l : List Tok) (t : Tok) (w : World) (h : Strm w g (.slice A l.length c) k) (ht : IsToks w w.heap.size (.slice A l.length c) l) (hk : k < l.length) (hg : l[k]? = some t) (hr : t.row.length ≤ 1000) (hln : l.length ≤ 1000) :
  Calls Tryz.prog 127 #[.pointer (some ⟨g, 0, Option.none⟩)] w fun e w' => (∃ A' c', e = .returned (.tuple #[.agg #[.int .i64 t.kind, .string ⟨t.text.toArray⟩, .string ⟨t.num.toArray⟩, .string ⟨t.den.toArray⟩, .slice A' t.row.length c', .int .i64 t.line, .int .i64 t.col], .bool true]) ∧ TRow w' (.slice A' t.row.length c') t.row) ∧ Below w.heap.size (w.setCell ⟨g, 1, Option.none⟩ (.int .i64 (k + 1))) w' := by
 have hba : Below w.heap.size w (w.alloc (.cells #[.int .i64 0, .string ⟨#[]⟩, .string ⟨#[]⟩, .string ⟨#[]⟩, .slice Option.none 0 0, .int .i64 0, .int .i64 0] 92)) := (Below.refl _ _).alloc (Nat.le_refl _) _
 have HP := Lib.hid (peek_some g k c A l t _ (Cells.below h hba h.lt) (ht.lift hba) hk hg hr)
 have HS := Lib.hid (Cells.below h hba h.lt)
 have HN := Lib.hid (Cells.new w 92 #[.int .i64 0, .string ⟨#[]⟩, .string ⟨#[]⟩, .string ⟨#[]⟩, .slice Option.none 0 0, .int .i64 0, .int .i64 0])
 have HB := Lib.hid hba
 have hgl : g < w.heap.size := h.lt
 have hki : (k : Int) ≤ 1000 := by omega
 clear hba h ht hg hr
 obtain ⟨k0, x0, n0, d0, r0, l0, o0⟩ := t
 dsimp only at *
 go_enter Tryz.func127, Tryz.ntmps127
 go_wp2_with fail
 refine HP.out.mono ?_
 rintro e w1 ⟨⟨A5, c5, rfl, ht5⟩, hb⟩
 have hT : TRow (w1.alloc (.cells #[.int .i64 k0, .string ⟨x0.toArray⟩, .string ⟨n0.toArray⟩, .string ⟨d0.toArray⟩, .slice A5 r0.length c5, .int .i64 l0, .int .i64 o0] 92)) (.slice A5 r0.length c5) r0 := ht5.below ((Below.refl _ _).alloc (Nat.le_refl _) _)
 have hN := (HN.out.below hb HN.out.lt).alloc (.cells #[.int .i64 k0, .string ⟨x0.toArray⟩, .string ⟨n0.toArray⟩, .string ⟨d0.toArray⟩, .slice A5 r0.length c5, .int .i64 l0, .int .i64 o0] 92)
 have hS : Cells _ g _ _ := (HS.out.below hb HS.out.lt).alloc (.cells #[.int .i64 k0, .string ⟨x0.toArray⟩, .string ⟨n0.toArray⟩, .string ⟨d0.toArray⟩, .slice A5 r0.length c5, .int .i64 l0, .int .i64 o0] 92)
 have hM := Cells.new w1 92 #[.int .i64 k0, .string ⟨x0.toArray⟩, .string ⟨n0.toArray⟩, .string ⟨d0.toArray⟩, .slice A5 r0.length c5, .int .i64 l0, .int .i64 o0]
 have hbw := HB.out.trans (hb.mono HB.out.size)
 have hs1 := hbw.size
 replace hbw := hbw.alloc hbw.size (.cells #[.int .i64 k0, .string ⟨x0.toArray⟩, .string ⟨n0.toArray⟩, .string ⟨d0.toArray⟩, .slice A5 r0.length c5, .int .i64 l0, .int .i64 o0] 92)
 have hlt : w.heap.size < w1.heap.size := by have := hb.size; simp at this; omega
 have s1 := hS.cell 1
 have t1 := hS.free 1
 simp only [List.getElem?_cons_succ, List.getElem?_cons_zero] at s1
 obtain ⟨⟨z0, z1, z2, z3, z4, z5, z6⟩, y0, y1, y2, y3, y4, y5, y6⟩ := cells7 hN
 obtain ⟨⟨q0, q1, q2, q3, q4, q5, q6⟩, f0, f1, f2, f3, f4, f5, f6⟩ := cells7 hM
 have e1 : g ≠ w.heap.size := by omega
 have e2 : w.heap.size ≠ g := by omega
 have e3 : g ≠ w1.heap.size := by omega
 have e4 : w1.heap.size ≠ g := by omega
 have HBW := Lib.hid hbw
 have HT := Lib.hid hT
 have HN2 := Lib.hid hN
 have HS2 := Lib.hid hS
 clear hN hM hbw HN HB HS hb hS hT ht5 HP
 go_wp2_with fail
 refine bodyPost_ret (v := .tuple #[.agg #[.int .i64 k0, .string ⟨x0.toArray⟩, .string ⟨n0.toArray⟩, .string ⟨d0.toArray⟩, .slice A5 r0.length c5, .int .i64 l0, .int .i64 o0], .bool true]) (by simp (maxDischargeDepth := 10) [results, Tryz.results127, go_sem, z0, z1, z2, z3, z4, z5, z6]) rfl ⟨⟨A5, c5, rfl, ?_⟩, ?_⟩
 ·have hT := HT.out.set HS2.out (k := 1) (by decide) (.int .i64 (k + 1))
  have hN := HN2.out.far (p := ⟨g, 1, Option.none⟩) e2 (.int .i64 (k + 1))
  exact ((((((hT.set hN (by decide) _).set (hN.set 0 _) (by decide) _).set ((hN.set 0 _).set 1 _) (by decide) _).set (((hN.set 0 _).set 1 _).set 2 _) (by decide) _).set ((((hN.set 0 _).set 1 _).set 2 _).set 3 _) (by decide) _).set (((((hN.set 0 _).set 1 _).set 2 _).set 3 _).set 4 _) (by decide) _).set ((((((hN.set 0 _).set 1 _).set 2 _).set 3 _).set 4 _).set 5 _) (by decide) _
 ·exact ((((((((below_set_both HBW.out g 1 (.int .i64 (k + 1))).setCell (Nat.le_refl _) _).setCell (Nat.le_refl _) _).setCell (Nat.le_refl _) _).setCell (Nat.le_refl _) _).setCell (Nat.le_refl _) _).setCell (Nat.le_refl _) _).setCell (Nat.le_refl _) _)
set_option maxRecDepth 100000 in
set_option maxHeartbeats 1000000 in
theorem take_none (g c n : Nat) (q : Int) (A : Option Addr) (w : World) (h : Strm w g (.slice A n c) n) :
  Calls Tryz.prog 122 #[.pointer (some ⟨g, 0, Option.none⟩), .int .i64 q] w fun e w' => e = .returned (.tuple #[tokZA, .bool false]) ∧ Below w.heap.size w w' := by
 have hba : Below w.heap.size w (w.alloc (.cells #[.int .i64 0, .string ⟨#[]⟩, .string ⟨#[]⟩, .string ⟨#[]⟩, .slice Option.none 0 0, .int .i64 0, .int .i64 0] 92)) := (Below.refl _ _).alloc (Nat.le_refl _) _
 have HS := Lib.hid (Cells.below h hba h.lt)
 have HN := Lib.hid (Cells.new w 92 #[.int .i64 0, .string ⟨#[]⟩, .string ⟨#[]⟩, .string ⟨#[]⟩, .slice Option.none 0 0, .int .i64 0, .int .i64 0])
 have HB := Lib.hid hba
 clear hba h
 go_enter Tryz.func122, Tryz.ntmps122
 go_wp2_with fail
 refine (peek_none g c n A _ HS.out).mono ?_
 rintro e w1 ⟨he, hb⟩
 obtain rfl : e = .returned (.tuple #[.agg #[.int .i64 0, .string ⟨#[]⟩, .string ⟨#[]⟩, .string ⟨#[]⟩, .slice Option.none 0 0, .int .i64 0, .int .i64 0], .bool false]) := he
 have hN := (HN.out.below hb HN.out.lt).alloc (.cells #[.int .i64 0, .string ⟨#[]⟩, .string ⟨#[]⟩, .string ⟨#[]⟩, .slice Option.none 0 0, .int .i64 0, .int .i64 0] 92)
 have hbw := HB.out.trans (hb.mono HB.out.size)
 replace hbw := hbw.alloc hbw.size (.cells #[.int .i64 0, .string ⟨#[]⟩, .string ⟨#[]⟩, .string ⟨#[]⟩, .slice Option.none 0 0, .int .i64 0, .int .i64 0] 92)
 obtain ⟨⟨z0, z1, z2, z3, z4, z5, z6⟩, y0, y1, y2, y3, y4, y5, y6⟩ := cells7 hN
 have HBW := Lib.hid hbw
 clear hN hbw HN HB HS hb
 go_wp2_with fail
 refine bodyPost_ret (v := .tuple #[.agg #[.int .i64 0, .string ⟨#[]⟩, .string ⟨#[]⟩, .string ⟨#[]⟩, .slice Option.none 0 0, .int .i64 0, .int .i64 0], .bool false]) (by simp (maxDischargeDepth := 10) [results, Tryz.results122, go_sem, z0, z1, z2, z3, z4, z5, z6]) rfl ⟨rfl, ?_⟩
 exact below7 HBW.out _ _ _ _ _ _ _
set_option maxRecDepth 100000 in
set_option maxHeartbeats 1000000 in
theorem take_other (g k c : Nat) (q : Int) (A : Option Addr) (l : List Tok) (t : Tok) (w : World) (h : Strm w g (.slice A l.length c) k) (ht : IsToks w w.heap.size (.slice A l.length c) l) (hk : k < l.length) (hg : l[k]? = some t) (hr : t.row.length ≤ 1000) (hq : t.kind ≠ q) :
  Calls Tryz.prog 122 #[.pointer (some ⟨g, 0, Option.none⟩), .int .i64 q] w fun e w' => e = .returned (.tuple #[tokZA, .bool false]) ∧ Below w.heap.size w w' := by
 have hba : Below w.heap.size w (w.alloc (.cells #[.int .i64 0, .string ⟨#[]⟩, .string ⟨#[]⟩, .string ⟨#[]⟩, .slice Option.none 0 0, .int .i64 0, .int .i64 0] 92)) := (Below.refl _ _).alloc (Nat.le_refl _) _
 have HP := Lib.hid (peek_some g k c A l t _ (Cells.below h hba h.lt) (ht.lift hba) hk hg hr)
 have HN := Lib.hid (Cells.new w 92 #[.int .i64 0, .string ⟨#[]⟩, .string ⟨#[]⟩, .string ⟨#[]⟩, .slice Option.none 0 0, .int .i64 0, .int .i64 0])
 have HB := Lib.hid hba
 have hqb : (t.kind != q) = true := by simpa using hq
 clear hba h ht hg hr hq
 obtain ⟨k0, x0, n0, d0, r0, l0, o0⟩ := t
 dsimp only at *
 go_enter Tryz.func122, Tryz.ntmps122
 go_wp2_with fail
 refine HP.out.mono ?_
 rintro e w1 ⟨⟨A5, c5, rfl, _⟩, hb⟩
 have hN := (HN.out.below hb HN.out.lt).alloc (.cells #[.int .i64 k0, .string ⟨x0.toArray⟩, .string ⟨n0.toArray⟩, .string ⟨d0.toArray⟩, .slice A5 r0.length c5, .int .i64 l0, .int .i64 o0] 92)
 have hbw := HB.out.trans (hb.mono HB.out.size)
 replace hbw := hbw.alloc hbw.size (.cells #[.int .i64 k0, .string ⟨x0.toArray⟩, .string ⟨n0.toArray⟩, .string ⟨d0.toArray⟩, .slice A5 r0.length c5, .int .i64 l0, .int .i64 o0] 92)
 obtain ⟨⟨z0, z1, z2, z3, z4, z5, z6⟩, y0, y1, y2, y3, y4, y5, y6⟩ := cells7 hN
 have HBW := Lib.hid hbw
 clear hN hbw HN HB HP hb
 go_wp2_with fail
 refine bodyPost_ret (v := .tuple #[.agg #[.int .i64 0, .string ⟨#[]⟩, .string ⟨#[]⟩, .string ⟨#[]⟩, .slice Option.none 0 0, .int .i64 0, .int .i64 0], .bool false]) (by simp (maxDischargeDepth := 10) [results, Tryz.results122, go_sem, z0, z1, z2, z3, z4, z5, z6]) rfl ⟨rfl, ?_⟩
 exact below7 HBW.out _ _ _ _ _ _ _
set_option maxRecDepth 100000 in
set_option maxHeartbeats 1000000 in
theorem accept_none (g c n : Nat) (s : List UInt8) (A : Option Addr) (w : World) (h : Strm w g (.slice A n c) n) :
  Calls Tryz.prog 125 #[.pointer (some ⟨g, 0, Option.none⟩), .string ⟨s.toArray⟩] w fun e w' => e = .returned (.bool false) ∧ Below w.heap.size w w' := by
 have HP := Lib.hid (peek_none g c n A _ h)
 clear h
 go_enter Tryz.func125, Tryz.ntmps125
 go_wp2_with fail
 refine HP.out.mono ?_
 rintro e w1 ⟨he, hb⟩
 obtain rfl : e = .returned (.tuple #[.agg #[.int .i64 0, .string ⟨#[]⟩, .string ⟨#[]⟩, .string ⟨#[]⟩, .slice Option.none 0 0, .int .i64 0, .int .i64 0], .bool false]) := he
 have HBW := Lib.hid (hb.alloc hb.size (.cells #[.int .i64 0, .string ⟨#[]⟩, .string ⟨#[]⟩, .string ⟨#[]⟩, .slice Option.none 0 0, .int .i64 0, .int .i64 0] 92))
 clear hb HP
 go_wp2_with fail
 go_ret
 exact ⟨rfl, HBW.out⟩
set_option maxRecDepth 100000 in
set_option maxHeartbeats 4000000 in
theorem take_some (g k c : Nat) (A : Option Addr) (l : List Tok) (t : Tok) (w : World) (h : Strm w g (.slice A l.length c) k) (ht : IsToks w w.heap.size (.slice A l.length c) l) (hk : k < l.length) (hg : l[k]? = some t) (hr : t.row.length ≤ 1000) (hln : l.length ≤ 1000) :
  Calls Tryz.prog 122 #[.pointer (some ⟨g, 0, Option.none⟩), .int .i64 t.kind] w fun e w' => (∃ A' c', e = .returned (.tuple #[.agg #[.int .i64 t.kind, .string ⟨t.text.toArray⟩, .string ⟨t.num.toArray⟩, .string ⟨t.den.toArray⟩, .slice A' t.row.length c', .int .i64 t.line, .int .i64 t.col], .bool true]) ∧ TRow w' (.slice A' t.row.length c') t.row) ∧ Below w.heap.size (w.setCell ⟨g, 1, Option.none⟩ (.int .i64 (k + 1))) w' := by
 have hba : Below w.heap.size w (w.alloc (.cells #[.int .i64 0, .string ⟨#[]⟩, .string ⟨#[]⟩, .string ⟨#[]⟩, .slice Option.none 0 0, .int .i64 0, .int .i64 0] 92)) := (Below.refl _ _).alloc (Nat.le_refl _) _
 have HP := Lib.hid (peek_some g k c A l t _ (Cells.below h hba h.lt) (ht.lift hba) hk hg hr)
 have HX := Lib.hid (fun W h ht => next_some g k c A l t W h ht hk hg hr hln)
 have HS := Lib.hid (Cells.below h hba h.lt)
 have HT := Lib.hid (ht.lift hba)
 have HN := Lib.hid (Cells.new w 92 #[.int .i64 0, .string ⟨#[]⟩, .string ⟨#[]⟩, .string ⟨#[]⟩, .slice Option.none 0 0, .int .i64 0, .int .i64 0])
 have HB := Lib.hid hba
 have hgl : g < w.heap.size := h.lt
 clear hba h ht hg hr
 obtain ⟨k0, x0, n0, d0, r0, l0, o0⟩ := t
 dsimp only at *
 go_enter Tryz.func122, Tryz.ntmps122
 go_wp2_with fail
 refine HP.out.mono ?_
 rintro e w1 ⟨⟨A5, c5, rfl, _⟩, hb⟩
 have hba : Below w1.heap.size w1 (w1.alloc (.cells #[.int .i64 k0, .string ⟨x0.toArray⟩, .string ⟨n0.toArray⟩, .string ⟨d0.toArray⟩, .slice A5 r0.length c5, .int .i64 l0, .int .i64 o0] 92)) := (Below.refl _ _).alloc (Nat.le_refl _) _
 have HN2 := Lib.hid ((HN.out.below hb HN.out.lt).below hba (HN.out.below hb HN.out.lt).lt)
 have HS2 : Hid (Strm _ g _ _) := Lib.hid ((HS.out.below hb HS.out.lt).below hba (HS.out.below hb HS.out.lt).lt)
 have HT2 := Lib.hid ((HT.out.lift hb).lift hba)
 have hbw := HB.out.trans (hb.mono HB.out.size)
 have HB2 := Lib.hid (hbw.trans (hba.mono hbw.size))
 clear hb hba hbw HN HS HT HB HP
 go_wp2_with fail
 refine (HX.out _ HS2.out HT2.out).mono ?_
 rintro e w2 ⟨⟨A6, c6, rfl, ht6⟩, hb⟩
 have e2 : w.heap.size ≠ g := by omega
 have hN := (HN2.out.far (p := ⟨g, 1, Option.none⟩) e2 (.int .i64 (k + 1))).below hb HN2.out.lt
 obtain ⟨⟨z0, z1, z2, z3, z4, z5, z6⟩, y0, y1, y2, y3, y4, y5, y6⟩ := cells7 hN
 have HN3 := Lib.hid hN
 have HT3 := Lib.hid ht6
 have HB3 := Lib.hid ((below_set_both HB2.out g 1 (.int .i64 (k + 1))).trans (hb.mono HB2.out.size))
 clear hN ht6 hb HN2 HS2 HT2 HB2 HX
 go_wp2_with fail
 refine bodyPost_ret (v := .tuple #[.agg #[.int .i64 k0, .string ⟨x0.toArray⟩, .string ⟨n0.toArray⟩, .string ⟨d0.toArray⟩, .slice A6 r0.length c6, .int .i64 l0, .int .i64 o0], .bool true]) (by simp (maxDischargeDepth := 10) [results, Tryz.results122, go_sem, z0, z1, z2, z3, z4, z5, z6]) rfl ⟨⟨A6, c6, rfl, ?_⟩, ?_⟩
 ·have hT := HT3.out
  have hN := HN3.out
  exact ((((((hT.set hN (by decide) _).set (hN.set 0 _) (by decide) _).set ((hN.set 0 _).set 1 _) (by decide) _).set (((hN.set 0 _).set 1 _).set 2 _) (by decide) _).set ((((hN.set 0 _).set 1 _).set 2 _).set 3 _) (by decide) _).set (((((hN.set 0 _).set 1 _).set 2 _).set 3 _).set 4 _) (by decide) _).set ((((((hN.set 0 _).set 1 _).set 2 _).set 3 _).set 4 _).set 5 _) (by decide) _
 ·exact ((((((HB3.out.setCell (Nat.le_refl _) _).setCell (Nat.le_refl _) _).setCell (Nat.le_refl _) _).setCell (Nat.le_refl _) _).setCell (Nat.le_refl _) _).setCell (Nat.le_refl _) _).setCell (Nat.le_refl _) _
set_option maxRecDepth 100000 in
set_option maxHeartbeats 4000000 in
theorem accept_kind (g k c : Nat) (s : List UInt8) (A : Option Addr) (l : List Tok) (t : Tok) (w : World) (h : Strm w g (.slice A l.length c) k) (ht : IsToks w w.heap.size (.slice A l.length c) l) (hk : k < l.length) (hg : l[k]? = some t) (hr : t.row.length ≤ 1000) (h1 : t.kind ≠ 1) (h5 : t.kind ≠ 5) :
  Calls Tryz.prog 125 #[.pointer (some ⟨g, 0, Option.none⟩), .string ⟨s.toArray⟩] w fun e w' => e = .returned (.bool false) ∧ Below w.heap.size w w' := by
 have HP := Lib.hid (peek_some g k c A l t _ h ht hk hg hr)
 have q1 : (t.kind != 1) = true := by simpa using h1
 have q5 : (t.kind != 5) = true := by simpa using h5
 clear h ht hg hr
 obtain ⟨k0, x0, n0, d0, r0, l0, o0⟩ := t
 dsimp only at *
 go_enter Tryz.func125, Tryz.ntmps125
 go_wp2_with fail
 refine HP.out.mono ?_
 rintro e w1 ⟨⟨A5, c5, rfl, _⟩, hb⟩
 have HBW := Lib.hid (hb.alloc hb.size (.cells #[.int .i64 k0, .string ⟨x0.toArray⟩, .string ⟨n0.toArray⟩, .string ⟨d0.toArray⟩, .slice A5 r0.length c5, .int .i64 l0, .int .i64 o0] 92))
 clear hb HP
 go_wp2_with fail
 go_ret
 exact ⟨rfl, HBW.out⟩
set_option maxRecDepth 100000 in
set_option maxHeartbeats 4000000 in
theorem accept_text (g k c : Nat) (s : List UInt8) (A : Option Addr) (l : List Tok) (t : Tok) (w : World) (h : Strm w g (.slice A l.length c) k) (ht : IsToks w w.heap.size (.slice A l.length c) l) (hk : k < l.length) (hg : l[k]? = some t) (hr : t.row.length ≤ 1000) (hs : t.text ≠ s) :
  Calls Tryz.prog 125 #[.pointer (some ⟨g, 0, Option.none⟩), .string ⟨s.toArray⟩] w fun e w' => e = .returned (.bool false) ∧ Below w.heap.size w w' := by
 have HP := Lib.hid (peek_some g k c A l t _ h ht hk hg hr)
 by_cases h1 : t.kind = 1
 ·have hsb : (t.text == s) = false := by simpa using hs
  clear h ht hg hr hs
  obtain ⟨k0, x0, n0, d0, r0, l0, o0⟩ := t
  dsimp only at *
  subst h1
  go_enter Tryz.func125, Tryz.ntmps125
  go_wp2_with fail
  refine HP.out.mono ?_
  rintro e w1 ⟨⟨A5, c5, rfl, _⟩, hb⟩
  have HBW := Lib.hid (hb.alloc hb.size (.cells #[.int .i64 1, .string ⟨x0.toArray⟩, .string ⟨n0.toArray⟩, .string ⟨d0.toArray⟩, .slice A5 r0.length c5, .int .i64 l0, .int .i64 o0] 92))
  clear hb HP
  go_wp2_with fail
  go_ret
  exact ⟨rfl, HBW.out⟩
 by_cases h5 : t.kind = 5
 ·have hsb : (t.text == s) = false := by simpa using hs
  clear h ht hg hr hs h1
  obtain ⟨k0, x0, n0, d0, r0, l0, o0⟩ := t
  dsimp only at *
  subst h5
  go_enter Tryz.func125, Tryz.ntmps125
  go_wp2_with fail
  refine HP.out.mono ?_
  rintro e w1 ⟨⟨A5, c5, rfl, _⟩, hb⟩
  have HBW := Lib.hid (hb.alloc hb.size (.cells #[.int .i64 5, .string ⟨x0.toArray⟩, .string ⟨n0.toArray⟩, .string ⟨d0.toArray⟩, .slice A5 r0.length c5, .int .i64 l0, .int .i64 o0] 92))
  clear hb HP
  go_wp2_with fail
  go_ret
  exact ⟨rfl, HBW.out⟩
 exact accept_kind g k c s A l t w h ht hk hg hr h1 h5
set_option maxRecDepth 100000 in
set_option maxHeartbeats 4000000 in
theorem accept_yes (g k c : Nat) (A : Option Addr) (l : List Tok) (t : Tok) (w : World) (h : Strm w g (.slice A l.length c) k) (ht : IsToks w w.heap.size (.slice A l.length c) l) (hk : k < l.length) (hg : l[k]? = some t) (hr : t.row.length ≤ 1000) (hln : l.length ≤ 1000) (hkd : t.kind = 1 ∨ t.kind = 5) :
  Calls Tryz.prog 125 #[.pointer (some ⟨g, 0, Option.none⟩), .string ⟨t.text.toArray⟩] w fun e w' => e = .returned (.bool true) ∧ Below w.heap.size (w.setCell ⟨g, 1, Option.none⟩ (.int .i64 (k + 1))) w' := by
 have HP := Lib.hid (peek_some g k c A l t _ h ht hk hg hr)
 have HS := Lib.hid h
 have hgl : g < w.heap.size := Cells.lt h
 have hki : (k : Int) ≤ 1000 := by omega
 clear h ht hg hr
 obtain ⟨k0, x0, n0, d0, r0, l0, o0⟩ := t
 dsimp only at *
 rcases hkd with rfl | rfl
 ·go_enter Tryz.func125, Tryz.ntmps125
  go_wp2_with fail
  refine HP.out.mono ?_
  rintro e w1 ⟨⟨A5, c5, rfl, _⟩, hb⟩
  have hba : Below w1.heap.size w1 (w1.alloc (.cells #[.int .i64 1, .string ⟨x0.toArray⟩, .string ⟨n0.toArray⟩, .string ⟨d0.toArray⟩, .slice A5 r0.length c5, .int .i64 l0, .int .i64 o0] 92)) := (Below.refl _ _).alloc (Nat.le_refl _) _
  have hS : Cells _ g _ _ := (Cells.below HS.out hb hgl).alloc (.cells #[.int .i64 1, .string ⟨x0.toArray⟩, .string ⟨n0.toArray⟩, .string ⟨d0.toArray⟩, .slice A5 r0.length c5, .int .i64 l0, .int .i64 o0] 92)
  have s1 := hS.cell 1
  have t1 := hS.free 1
  simp only [List.getElem?_cons_succ, List.getElem?_cons_zero] at s1
  have HBW := Lib.hid (hb.alloc hb.size (.cells #[.int .i64 1, .string ⟨x0.toArray⟩, .string ⟨n0.toArray⟩, .string ⟨d0.toArray⟩, .slice A5 r0.length c5, .int .i64 l0, .int .i64 o0] 92))
  clear hb HP hS hba HS
  go_wp2_with fail
  go_ret
  exact ⟨rfl, below_set_both HBW.out g 1 (.int .i64 (k + 1))⟩
 ·go_enter Tryz.func125, Tryz.ntmps125
  go_wp2_with fail
  refine HP.out.mono ?_
  rintro e w1 ⟨⟨A5, c5, rfl, _⟩, hb⟩
  have hba : Below w1.heap.size w1 (w1.alloc (.cells #[.int .i64 5, .string ⟨x0.toArray⟩, .string ⟨n0.toArray⟩, .string ⟨d0.toArray⟩, .slice A5 r0.length c5, .int .i64 l0, .int .i64 o0] 92)) := (Below.refl _ _).alloc (Nat.le_refl _) _
  have hS : Cells _ g _ _ := (Cells.below HS.out hb hgl).alloc (.cells #[.int .i64 5, .string ⟨x0.toArray⟩, .string ⟨n0.toArray⟩, .string ⟨d0.toArray⟩, .slice A5 r0.length c5, .int .i64 l0, .int .i64 o0] 92)
  have s1 := hS.cell 1
  have t1 := hS.free 1
  simp only [List.getElem?_cons_succ, List.getElem?_cons_zero] at s1
  have HBW := Lib.hid (hb.alloc hb.size (.cells #[.int .i64 5, .string ⟨x0.toArray⟩, .string ⟨n0.toArray⟩, .string ⟨d0.toArray⟩, .slice A5 r0.length c5, .int .i64 l0, .int .i64 o0] 92))
  clear hb HP hS hba HS
  go_wp2_with fail
  go_ret
  exact ⟨rfl, below_set_both HBW.out g 1 (.int .i64 (k + 1))⟩
structure Off (B g : Nat) (w w' : World) : Prop where
 os : w'.os = w.os
 tape : w'.tape = w.tape
 output : w'.output = w.output
 size : w.heap.size ≤ w'.heap.size
 block : ∀ k, k < B → k ≠ g → w'.heap[k]? = w.heap[k]?
theorem Off.refl (B g : Nat) (w : World) : Off B g w w := ⟨rfl, rfl, rfl, Nat.le_refl _, fun _ _ _ => rfl⟩
theorem Off.of_below {B g : Nat} {w w' : World} (h : Below B w w') : Off B g w w' := ⟨h.os, h.tape, h.output, h.size, fun k hk _ => h.block k hk⟩
theorem Off.of_set {B g j : Nat} {u : Value} {w w' : World} (h : Below B (w.setCell ⟨g, j, Option.none⟩ u) w') : Off B g w w' :=
 ⟨h.os, h.tape, h.output, by have := h.size; simpa [World.setCell] using this, fun k hk hn => (h.block k hk).trans (Below.heap_setCell _ _ _ _ (by show k ≠ g; exact hn))⟩
theorem Off.trans {B g : Nat} {a b c : World} (h : Off B g a b) (h2 : Off B g b c) : Off B g a c :=
 ⟨h2.os.trans h.os, h2.tape.trans h.tape, h2.output.trans h.output, Nat.le_trans h.size h2.size, fun k hk hn => (h2.block k hk hn).trans (h.block k hk hn)⟩
theorem Off.mono {B B' g : Nat} {w w' : World} (h : Off B g w w') (hB : B' ≤ B) : Off B' g w w' := ⟨h.os, h.tape, h.output, h.size, fun k hk hn => h.block k (by omega) hn⟩
theorem Off.below {B g : Nat} {w w' : World} (h : Off B g w w') (hB : B ≤ g) : Below B w w' := ⟨h.os, h.tape, h.output, h.size, fun k hk => h.block k hk (by omega)⟩
theorem Off.setCell {B g : Nat} {w w' : World} (h : Off B g w w') {p : Addr} (hp : B ≤ p.block) (u : Value) : Off B g w (w'.setCell p u) :=
 ⟨h.os, h.tape, h.output, by have := h.size; simpa [World.setCell] using this, fun k hk hn => (Below.heap_setCell _ _ _ _ (by show k ≠ p.block; omega)).trans (h.block k hk hn)⟩
theorem Off.store7 {B g b : Nat} {w W : World} (h : Off B g w W) (hb : B ≤ b) (a0 a1 a2 a3 a4 a5 a6 : Value) : Off B g w (((((((W.setCell ⟨b, 0, Option.none⟩ a0).setCell ⟨b, 1, Option.none⟩ a1).setCell ⟨b, 2, Option.none⟩ a2).setCell ⟨b, 3, Option.none⟩ a3).setCell ⟨b, 4, Option.none⟩ a4).setCell ⟨b, 5, Option.none⟩ a5).setCell ⟨b, 6, Option.none⟩ a6) :=
 ((((((h.setCell (p := ⟨b, 0, Option.none⟩) hb a0).setCell (p := ⟨b, 1, Option.none⟩) hb a1).setCell (p := ⟨b, 2, Option.none⟩) hb a2).setCell (p := ⟨b, 3, Option.none⟩) hb a3).setCell (p := ⟨b, 4, Option.none⟩) hb a4).setCell (p := ⟨b, 5, Option.none⟩) hb a5).setCell (p := ⟨b, 6, Option.none⟩) hb a6
theorem Cells.far7 {W : World} {g b : Nat} {T : TypeId} {xs : List Value} (h : Cells W g T xs) (hb : g ≠ b) (a0 a1 a2 a3 a4 a5 a6 : Value) : Cells (((((((W.setCell ⟨b, 0, Option.none⟩ a0).setCell ⟨b, 1, Option.none⟩ a1).setCell ⟨b, 2, Option.none⟩ a2).setCell ⟨b, 3, Option.none⟩ a3).setCell ⟨b, 4, Option.none⟩ a4).setCell ⟨b, 5, Option.none⟩ a5).setCell ⟨b, 6, Option.none⟩ a6) g T xs :=
 ((((((h.far (p := ⟨b, 0, Option.none⟩) hb a0).far (p := ⟨b, 1, Option.none⟩) hb a1).far (p := ⟨b, 2, Option.none⟩) hb a2).far (p := ⟨b, 3, Option.none⟩) hb a3).far (p := ⟨b, 4, Option.none⟩) hb a4).far (p := ⟨b, 5, Option.none⟩) hb a5).far (p := ⟨b, 6, Option.none⟩) hb a6
theorem Off.base {B B0 g : Nat} {w w' : World} (h : Off B g w w') (hB : B0 ≤ B) (hg : B0 ≤ g) : Below B0 w w' := (h.mono hB).below hg
theorem Off.cells {B g g' : Nat} {w w' : World} {T : TypeId} {xs : List Value} (h : Off B g w w') (hc : Cells w g' T xs) (hl : g' < B) (hn : g' ≠ g) : Cells w' g' T xs := (h.block g' hl hn).trans hc
theorem TRow.off {w w' : World} {g : Nat} {T : TypeId} {xs : List Value} {v : Value} {x : List Int} (h : TRow w v x) (hc : Cells w g T xs) (hT : T ≠ 3) (ho : Off w.heap.size g w w') : TRow w' v x := h.keep fun g' cur p hcur => ho.block g' (Array.getElem?_eq_some_iff.1 hcur).1 (fun e => by
 subst e
 unfold Cells at hc
 rw [hc] at hcur
 injection hcur with hcur
 injection hcur with _ hcur _
 exact hT hcur)
theorem Toks.off {w w' : World} {base g : Nat} {v : Value} {l : List Tok} {T : TypeId} {xs : List Value} (h : Toks w base v l) (hg : g < base) (hc : Cells w g T xs) (hT : T ≠ 3) (ho : Off w.heap.size g w w') : Toks w' base v l := by
 obtain ⟨rvs, h1, h2, h3⟩ := h
 refine ⟨rvs, h1, ⟨h2.1, ?_⟩, fun k t rv a b => (h3 k t rv a b).off hc hT ho⟩
 rcases h2.2 with hn | ⟨g', cap, cur, rfl, hb, hh, rest⟩
 ·exact .inl hn
 ·exact .inr ⟨g', cap, cur, rfl, hb, (ho.block g' (Array.getElem?_eq_some_iff.1 hh).1 (by omega)).trans hh, rest⟩
structure Str (w : World) (g : Nat) (A : Option Addr) (c : Nat) (l : List Tok) (k : Nat) : Prop where
 strm : Strm w g (.slice A l.length c) k
 toks : Toks w (g + 1) (.slice A l.length c) l
theorem Str.off {w w' : World} {g c k k' : Nat} {A : Option Addr} {l : List Tok} (h : Str w g A c l k) (ho : Off w.heap.size g w w') (hs : Strm w' g (.slice A l.length c) k') : Str w' g A c l k' := ⟨hs, h.toks.off (Nat.lt_succ_self _) h.strm (by decide) ho⟩
theorem Str.below {w w' : World} {g c k : Nat} {A : Option Addr} {l : List Tok} (h : Str w g A c l k) (hb : Below w.heap.size w w') : Str w' g A c l k := ⟨Cells.below h.strm hb (Cells.lt h.strm), h.toks.below hb⟩
theorem Str.set {w w' : World} {g c k k' : Nat} {A : Option Addr} {l : List Tok} (h : Str w g A c l k) (hb : Below w.heap.size (w.setCell ⟨g, 1, Option.none⟩ (.int .i64 (k' : Nat))) w') : Str w' g A c l k' :=
 h.off (Off.of_set hb) (Cells.below (Cells.set h.strm 1 _) hb (Cells.lt h.strm))
def TokIs (w : World) (t : Tok) (e : Ending) : Prop := ∃ A' c', e = .returned (.tuple #[.agg #[.int .i64 t.kind, .string ⟨t.text.toArray⟩, .string ⟨t.num.toArray⟩, .string ⟨t.den.toArray⟩, .slice A' t.row.length c', .int .i64 t.line, .int .i64 t.col], .bool true]) ∧ TRow w (.slice A' t.row.length c') t.row
section
variable {g k c : Nat} {A : Option Addr} {l : List Tok} {w : World}
theorem next_yes (h : Str w g A c l k) (hk : k < l.length) (hr : ∀ t ∈ l, t.row.length ≤ 1000) (hln : l.length ≤ 1000) :
  Calls Tryz.prog 127 #[.pointer (some ⟨g, 0, Option.none⟩)] w fun e w' => TokIs w' (l[k]'hk) e ∧ Str w' g A c l (k + 1) ∧ Off w.heap.size g w w' :=
 (next_some g k c A l (l[k]'hk) w h.strm h.toks.isToks hk (List.getElem?_eq_getElem hk) (hr _ (List.getElem_mem hk)) hln).mono fun _ _ ⟨he, hb⟩ => ⟨he, h.set (k' := k + 1) hb, Off.of_set hb⟩
theorem peek_yes (h : Str w g A c l k) (hk : k < l.length) (hr : ∀ t ∈ l, t.row.length ≤ 1000) :
  Calls Tryz.prog 126 #[.pointer (some ⟨g, 0, Option.none⟩)] w fun e w' => TokIs w' (l[k]'hk) e ∧ Str w' g A c l k ∧ Off w.heap.size g w w' :=
 (peek_some g k c A l (l[k]'hk) w h.strm h.toks.isToks hk (List.getElem?_eq_getElem hk) (hr _ (List.getElem_mem hk))).mono fun _ _ ⟨he, hb⟩ => ⟨he, h.below hb, Off.of_below hb⟩
theorem peek_end (h : Str w g A c l k) (hk : k = l.length) :
  Calls Tryz.prog 126 #[.pointer (some ⟨g, 0, Option.none⟩)] w fun e w' => e = .returned (.tuple #[tokZA, .bool false]) ∧ Str w' g A c l k ∧ Off w.heap.size g w w' := by
 subst hk
 exact (peek_none g c l.length A w h.strm).mono fun _ _ ⟨he, hb⟩ => ⟨he, h.below hb, Off.of_below hb⟩
theorem take_yes (q : Int) (h : Str w g A c l k) (hk : k < l.length) (hr : ∀ t ∈ l, t.row.length ≤ 1000) (hln : l.length ≤ 1000) (hq : (l[k]'hk).kind = q) :
  Calls Tryz.prog 122 #[.pointer (some ⟨g, 0, Option.none⟩), .int .i64 q] w fun e w' => TokIs w' (l[k]'hk) e ∧ Str w' g A c l (k + 1) ∧ Off w.heap.size g w w' := by
 subst hq
 exact (take_some g k c A l (l[k]'hk) w h.strm h.toks.isToks hk (List.getElem?_eq_getElem hk) (hr _ (List.getElem_mem hk)) hln).mono fun _ _ ⟨he, hb⟩ => ⟨he, h.set (k' := k + 1) hb, Off.of_set hb⟩
theorem take_no (q : Int) (h : Str w g A c l k) (hr : ∀ t ∈ l, t.row.length ≤ 1000) (hq : k = l.length ∨ ∃ hk : k < l.length, (l[k]'hk).kind ≠ q) :
  Calls Tryz.prog 122 #[.pointer (some ⟨g, 0, Option.none⟩), .int .i64 q] w fun e w' => e = .returned (.tuple #[tokZA, .bool false]) ∧ Str w' g A c l k ∧ Off w.heap.size g w w' := by
 rcases hq with hk | ⟨hk, hq⟩
 ·subst hk
  exact (take_none g c l.length q A w h.strm).mono fun _ _ ⟨he, hb⟩ => ⟨he, h.below hb, Off.of_below hb⟩
 ·exact (take_other g k c q A l (l[k]'hk) w h.strm h.toks.isToks hk (List.getElem?_eq_getElem hk) (hr _ (List.getElem_mem hk)) hq).mono fun _ _ ⟨he, hb⟩ => ⟨he, h.below hb, Off.of_below hb⟩
end
end Go.Proofs.YtaaeekahhhookaaGreatDoor
namespace Go.Proofs.YtaaeekahhhookaaGreatDoor
open Go.RowKit Go.Lib
set_option maxRecDepth 100000 in
set_option maxHeartbeats 8000000 in
theorem open_any (v : Value) (l : List Tok) (w : World) (hv : IsToks w w.heap.size v l) (hr : ∀ t ∈ l, t.row.length ≤ 1000) (hln : l.length ≤ 1000) :
  Calls Tryz.prog 80 #[v] w fun e w' => (∃ g A c, e = .returned (.pointer (some ⟨g, 0, Option.none⟩)) ∧ w.heap.size ≤ g ∧ Str w' g A c l 0) ∧ Below w.heap.size w w' := by
 obtain ⟨i0, hi0, hz0, hz1, hz2⟩ := info_parts Tryz.info_tok
 have HV := Lib.hid hv
 have HR := Lib.hid hr
 obtain ⟨AX, cx, _, rfl, _⟩ := hv
 have hli : (l.length : Int) ≤ 1000 := by omega
 clear hr
 go_enter Tryz.func80, Tryz.ntmps80
 go_wp2_with fail
 go_loopw [10] (fun iv wr => ∃ (k : Nat) (sv : Value), k ≤ l.length ∧ iv = .int .i64 k ∧ Cells wr w.heap.size 196 [sv, .int .i64 0] ∧ Toks wr (w.heap.size + 1) sv (l.take k) ∧ Below w.heap.size w wr) (fun iv _ => l.length - (intOf iv).toNat)
 case atStart => exact ⟨0, _, Nat.zero_le _, rfl, Cells.new w 196 #[.slice Option.none 0 0, .int .i64 0], Toks.nil _ _, (Below.refl _ _).alloc (Nat.le_refl _) _⟩
 case round =>
  obtain ⟨k, sv, hk, rfl, hc, ht, hbw⟩ := hrel
  by_cases hlt : k < l.length
  ·obtain ⟨b1, o1, r1, rfl, hb1, hr1, hc1⟩ := (HV.out.lift hbw).at_ hlt
   have hrl := HR.out _ (List.getElem_mem hlt)
   have HTK : Box (l.take (k + 1) = l.take k ++ [l[k]'hlt]) := ⟨List.take_succ_eq_append_getElem hlt⟩
   have HTL : Box ((l.take k).length = k) := ⟨by rw [List.length_take, Nat.min_eq_left hk]⟩
   generalize l[k]'hlt = t at *
   obtain ⟨A1, C1, e1, _⟩ := id hr1
   subst e1
   have p0 := hc1 0 (by omega)
   have p1 := hc1 1 (by omega)
   have p2 := hc1 2 (by omega)
   have p3 := hc1 3 (by omega)
   have p4 := hc1 4 (by omega)
   have p5 := hc1 5 (by omega)
   have p6 := hc1 6 (by omega)
   simp only [tokVals, List.getElem?_cons_succ, List.getElem?_cons_zero, Nat.add_zero] at p0 p1 p2 p3 p4 p5 p6
   obtain ⟨k0, x0, n0, d0, r0, l0, q0⟩ := t
   dsimp only at *
   have hba : Below wr.heap.size wr (wr.alloc (.cells #[.int .i64 k0, .string ⟨x0.toArray⟩, .string ⟨n0.toArray⟩, .string ⟨d0.toArray⟩, .slice A1 r0.length C1, .int .i64 l0, .int .i64 q0] 92)) := (Below.refl _ _).alloc (Nat.le_refl _) _
   have HRW := Lib.hid (hr1.lift hba)
   have HC := Lib.hid hc
   obtain ⟨rvs, hr1', hown, hr3⟩ := ht
   have HR1 : Box (rvs.length = (l.take k).length) := ⟨hr1'⟩
   have HOR := Lib.hid hown
   have HR3 := Lib.hid hr3
   have hlk : (l.take k).length ≤ 1000 := by rw [HTL.out]; omega
   have HB := Lib.hid hbw
   have HBA := Lib.hid hba
   have HN := Lib.hid (Cells.new wr 92 #[.int .i64 k0, .string ⟨x0.toArray⟩, .string ⟨n0.toArray⟩, .string ⟨d0.toArray⟩, .slice A1 r0.length C1, .int .i64 l0, .int .i64 q0])
   have hlw : w.heap.size < wr.heap.size := hc.lt
   clear hc hown hr3 hr1' hbw hba hr1 hc1 hb1
   go_wp2_with fail
   refine (clone_any _ r0 _ HRW.out hrl).mono ?_
   rintro e w5 ⟨⟨A5, c5, rfl, ht5⟩, hb5⟩
   have hs5 := hb5.size
   rw [World.size_alloc] at hs5
   have hN5 := HN.out.below hb5 HN.out.lt
   have hb6 := (HBA.out.trans (hb5.mono HBA.out.size)).setCell (p := ⟨wr.heap.size, 4, Option.none⟩) (Nat.le_refl _) (.slice A5 r0.length c5)
   have hA6 := ht5.set hN5 (k := 4) (by decide) (.slice A5 r0.length c5)
   have hN6 := hN5.set 4 (.slice A5 r0.length c5)
   have hC6 := HC.out.below hb6 hlw
   have hO6 := own_below HOR.out hb6
   have f4 := hN5.free 4
   obtain ⟨⟨p0, p1, p2, p3, p4, p5, p6⟩, _⟩ := cells7 (show Cells w5 wr.heap.size 92 [_, _, _, _, _, _, _] from hN5)
   have hs6 : wr.heap.size < (w5.setCell ⟨wr.heap.size, 4, Option.none⟩ (.slice A5 r0.length c5)).heap.size := hN6.lt
   have HN6 := Lib.hid hN6
   have HC6 := Lib.hid hC6
   have HO6 := Lib.hid hO6
   have HA6 := Lib.hid hA6
   have HB6 := Lib.hid hb6
   clear hN5 hb6 hA6 hN6 hC6 hO6 hb5 ht5 HRW HC HN HBA
   go_upto_region 6 with (fail)
   clear p0 p1 p2 p3 p4 p5 p6 f4
   generalize w5.setCell ⟨wr.heap.size, 4, Option.none⟩ (.slice A5 r0.length c5) = W at *
   obtain ⟨⟨p0, p1, p2, p3, p4, p5, p6⟩, _⟩ := cells7 (show Cells W wr.heap.size 92 [_, _, _, _, _, _, _] from HN6.out)
   have c0 := HC6.out.cell 0
   simp only [List.getElem?_cons_zero] at c0
   have hcd := (HC6.out.alloc (.cells #[.int .i64 k0, .string ⟨x0.toArray⟩, .string ⟨n0.toArray⟩, .string ⟨d0.toArray⟩, .slice A5 r0.length c5, .int .i64 l0, .int .i64 q0] 92)).cell 0
   simp only [List.getElem?_cons_zero] at hcd
   have hlt0 : w.heap.size < W.heap.size := by have := HB6.out.size; omega
   have hne : wr.heap.size ≠ w.heap.size := by omega
   have hne2 : w.heap.size ≠ wr.heap.size := by omega
   have hsz7 := HB6.out.size
   go_region_law (first | (refine step_append_lies _ (by rfl) _ _ _ (by rfl) (w.heap.size + 1) 92 i0 _ 7 96 Tryz.underlying81 hi0 hz0 hz1 hz2 rfl (by omega) sv (l.take k).length _ (by rfl) ((HO6.out.alloc _).drew) ⟨W.heap.size, 0, Option.none⟩ 1 1 [.int .i64 k0, .string ⟨x0.toArray⟩, .string ⟨n0.toArray⟩, .string ⟨d0.toArray⟩, .slice A5 r0.length c5, .int .i64 l0, .int .i64 q0] (by rfl) (by rfl) (World.news_of_block (cs := #[.int .i64 k0, .string ⟨x0.toArray⟩, .string ⟨n0.toArray⟩, .string ⟨d0.toArray⟩, .slice A5 r0.length c5, .int .i64 l0, .int .i64 q0]) (t := 92) (fr := (0, 0)) (heap_alloc_new _ _)) (by simp [Value.oneCell']) (by omega) (by unfold maxLen; omega) (by omega) (by simp; omega) (W.heap.size + 1) (by simp) ?_; intro gg cap w3 hown3 hgrow hat hlt3; have hC3 := Cells.grown (((HC6.out.alloc (.cells #[.int .i64 k0, .string ⟨x0.toArray⟩, .string ⟨n0.toArray⟩, .string ⟨d0.toArray⟩, .slice A5 r0.length c5, .int .i64 l0, .int .i64 q0] 92)).drew)) hgrow (fun e => by have := (HOR.out.lt _ e.symm).1; omega); have z0 := hC3.cell 0; have z1 := hC3.free 0; simp only [List.getElem?_cons_zero] at z0) | (refine step_append_lies _ (by rfl) _ _ _ (by rfl) (w.heap.size + 1) 92 i0 _ 7 96 Tryz.underlying81 hi0 hz0 hz1 hz2 rfl (by omega) sv (l.take k).length _ (by rfl) (HO6.out.drew.alloc _) ⟨W.heap.size, 0, Option.none⟩ 1 1 [.int .i64 k0, .string ⟨x0.toArray⟩, .string ⟨n0.toArray⟩, .string ⟨d0.toArray⟩, .slice A5 r0.length c5, .int .i64 l0, .int .i64 q0] (by rfl) (by rfl) (World.news_of_block (cs := #[.int .i64 k0, .string ⟨x0.toArray⟩, .string ⟨n0.toArray⟩, .string ⟨d0.toArray⟩, .slice A5 r0.length c5, .int .i64 l0, .int .i64 q0]) (t := 92) (fr := (0, 0)) (heap_alloc_new _ _)) (by simp [Value.oneCell']) (by omega) (by unfold maxLen; omega) (by omega) (by simp; omega) (W.heap.size + 1) (by simp) ?_; intro gg cap w3 hown3 hgrow hat hlt3; have hC3 := Cells.grown ((HC6.out.drew.alloc (.cells #[.int .i64 k0, .string ⟨x0.toArray⟩, .string ⟨n0.toArray⟩, .string ⟨d0.toArray⟩, .slice A5 r0.length c5, .int .i64 l0, .int .i64 q0] 92))) hgrow (fun e => by have := (HOR.out.lt _ e.symm).1; omega); have z0 := hC3.cell 0; have z1 := hC3.free 0; simp only [List.getElem?_cons_zero] at z0))
   all_goals
    have hbx : Below wr.heap.size wr (W.alloc (.cells #[.int .i64 k0, .string ⟨x0.toArray⟩, .string ⟨n0.toArray⟩, .string ⟨d0.toArray⟩, .slice A5 r0.length c5, .int .i64 l0, .int .i64 q0] 92)).drew := below_to_drew (HB6.out.alloc HB6.out.size _)
    have hby : Below W.heap.size W (W.alloc (.cells #[.int .i64 k0, .string ⟨x0.toArray⟩, .string ⟨n0.toArray⟩, .string ⟨d0.toArray⟩, .slice A5 r0.length c5, .int .i64 l0, .int .i64 q0] 92)).drew := below_to_drew ((Below.refl _ _).alloc (Nat.le_refl _) _)
    have hT3 := Toks.push (t := ⟨k0, x0, n0, d0, r0, l0, q0⟩) (rv := .slice A5 r0.length c5) HR1.out ((HO6.out.alloc (.cells #[.int .i64 k0, .string ⟨x0.toArray⟩, .string ⟨n0.toArray⟩, .string ⟨d0.toArray⟩, .slice A5 r0.length c5, .int .i64 l0, .int .i64 q0] 92)).drew) (fun j t rv a b => (HR3.out j t rv a b).below hbx) (HA6.out.below hby) hown3 hgrow
    have hB3 := ((HB.out.trans (hbx.mono HB.out.size)).grown hgrow (by simp; omega) (fun j hj => by have := (HOR.out.lt j hj).1; omega))
    rw [← HTK.out, HTL.out] at hT3
    have HT3 := Lib.hid hT3
    have HB3 := Lib.hid hB3
    have HC3 := Lib.hid hC3
    clear hT3 hB3 hbx hby hown3 hgrow hat hC3
    go_wp2_with fail
    go_roundw
    case rel => exact ⟨k + 1, _, by omega, by go_num, HC3.out.set 0 _, HT3.out.set (Nat.lt_succ_self _) HC3.out (by decide) _, HB3.out.setCell (Nat.le_refl _) _⟩
    case measure => simp [intOf]; omega
  ·obtain rfl : k = l.length := by omega
   rw [List.take_of_length_le (Nat.le_refl _)] at ht
   obtain ⟨LA, LC, _, hlv, _⟩ := ht.isToks
   subst hlv
   go_wp2_with fail
   go_ret
   exact ⟨⟨_, LA, LC, rfl, Nat.le_refl _, hc, ht⟩, hbw⟩
set_option maxRecDepth 100000 in
set_option maxHeartbeats 4000000 in
theorem at_place {g k c i : Nat} {A : Option Addr} {l : List Tok} {w : World} (h : Str w g A c l k) (hk : k ≤ l.length) (hln : l.length ≤ 1000) (hi : i < l.length) (hm : min k (l.length - 1) = i) :
  Calls Tryz.prog 119 #[.pointer (some ⟨g, 0, Option.none⟩)] w fun e w' => e = .returned (.agg #[.int .i64 (l[i]'hi).line, .int .i64 (l[i]'hi).col]) ∧ Str w' g A c l k ∧ Below w.heap.size w w' := by
 have HS := Lib.hid h
 have hba : Below w.heap.size w (w.alloc (.cells #[.int .i64 0, .int .i64 0] 31)) := (Below.refl _ _).alloc (Nat.le_refl _) _
 obtain ⟨c0, c1⟩ := Strm.cells (Cells.below h.strm hba (Cells.lt h.strm))
 obtain ⟨b1, o1, r1, e1, hb1, hr1, hc1⟩ := IsToks.at_ h.toks.isToks hi
 subst e1
 generalize l[i]'hi = t at *
 have p5 := keep_cell (hc1 5 (by omega)) hba
 have p6 := keep_cell (hc1 6 (by omega)) hba
 change _ = some (Value.int .i64 t.line) at p5
 change _ = some (Value.int .i64 t.col) at p6
 have hN := Cells.new w 31 #[.int .i64 0, .int .i64 0]
 have n0 := hN.cell 0
 have n1 := hN.cell 1
 have f0 := hN.free 0
 have f1 := hN.free 1
 have HB := Lib.hid hba
 have hgw : g < w.heap.size := Cells.lt h.strm
 have hl0 : ((l.length : Int) == 0) = false := by rw [beq_eq_false_iff_ne]; omega
 have hw1 : IntKind.i64.wrap ((l.length : Int) - 1) = (l.length : Int) - 1 := IntWalk.i64_in _ (by omega)
 have hmin : min (k : Int) ((l.length : Int) - 1) = (i : Int) := by omega
 have hi0 : (0 : Int) ≤ (i : Int) := by omega
 have hi1 : (i : Int) < (l.length : Int) := by omega
 clear h hba hr1 hc1 hN
 obtain ⟨k0, x0, d0, q0, r0, l0, o0⟩ := t
 dsimp only at *
 go_enter Tryz.func119, Tryz.ntmps119
 go_wp2_with fail
 have hg2 : g ≠ w.heap.size := by omega
 have hg3 : w.heap.size ≠ g := by omega
 have hg4 : b1 ≠ w.heap.size := by omega
 have hg5 : w.heap.size ≠ b1 := by omega
 obtain ⟨W, hW⟩ : ∃ W, W = w.alloc (.cells #[.int .i64 0, .int .i64 0] 31) := ⟨_, rfl⟩
 rw [← hW] at HB c0 c1 p5 p6 n0 n1 f0 f1 ⊢
 clear hW
 go_region_held3 (fun w' => w'.cell? ⟨g, 0, Option.none⟩ = some (.slice (some ⟨b1, o1, Option.none⟩) l.length c) ∧ w'.cell? ⟨g, 1, Option.none⟩ = some (.int .i64 (k : Int)) ∧ w'.cell? ⟨b1, o1 + i * 7 + 5, Option.none⟩ = some (.int .i64 l0) ∧ w'.cell? ⟨b1, o1 + i * 7 + 6, Option.none⟩ = some (.int .i64 o0))
  (first | exact ⟨c0, c1, p5, p6⟩ | go_keep)
  (fail)
 go_wp2_with fail
 refine bodyPost_ret (v := .agg #[.int .i64 l0, .int .i64 o0]) (by simp [results, Tryz.results119, go_sem, n0, n1]) rfl ⟨rfl, ?_, ?_⟩
 ·exact HS.out.below (below_to_drew ((HB.out.setCell (Nat.le_refl _) _).setCell (Nat.le_refl _) _))
 ·exact below_to_drew ((HB.out.setCell (Nat.le_refl _) _).setCell (Nat.le_refl _) _)
section
variable {g k c : Nat} {A : Option Addr} {l : List Tok} {w : World}
theorem accept_ok (s : List UInt8) (h : Str w g A c l k) (hk : k < l.length) (hr : ∀ t ∈ l, t.row.length ≤ 1000) (hln : l.length ≤ 1000) (hq : (l[k]'hk).kind = 1 ∨ (l[k]'hk).kind = 5) (hs : (l[k]'hk).text = s) :
  Calls Tryz.prog 125 #[.pointer (some ⟨g, 0, Option.none⟩), .string ⟨s.toArray⟩] w fun e w' => e = .returned (.bool true) ∧ Str w' g A c l (k + 1) ∧ Off w.heap.size g w w' := by
 subst hs
 exact (accept_yes g k c A l (l[k]'hk) w h.strm h.toks.isToks hk (List.getElem?_eq_getElem hk) (hr _ (List.getElem_mem hk)) hln hq).mono fun _ _ ⟨he, hb⟩ => ⟨he, h.set (k' := k + 1) hb, Off.of_set hb⟩
theorem accept_no (s : List UInt8) (h : Str w g A c l k) (hr : ∀ t ∈ l, t.row.length ≤ 1000) (hq : k = l.length ∨ ∃ hk : k < l.length, ((l[k]'hk).kind ≠ 1 ∧ (l[k]'hk).kind ≠ 5) ∨ (l[k]'hk).text ≠ s) :
  Calls Tryz.prog 125 #[.pointer (some ⟨g, 0, Option.none⟩), .string ⟨s.toArray⟩] w fun e w' => e = .returned (.bool false) ∧ Str w' g A c l k ∧ Off w.heap.size g w w' := by
 rcases hq with hk | ⟨hk, hq | hq⟩
 ·subst hk
  exact (accept_none g c l.length s A w h.strm).mono fun _ _ ⟨he, hb⟩ => ⟨he, h.below hb, Off.of_below hb⟩
 ·exact (accept_kind g k c s A l (l[k]'hk) w h.strm h.toks.isToks hk (List.getElem?_eq_getElem hk) (hr _ (List.getElem_mem hk)) hq.1 hq.2).mono fun _ _ ⟨he, hb⟩ => ⟨he, h.below hb, Off.of_below hb⟩
 ·exact (accept_text g k c s A l (l[k]'hk) w h.strm h.toks.isToks hk (List.getElem?_eq_getElem hk) (hr _ (List.getElem_mem hk)) hq).mono fun _ _ ⟨he, hb⟩ => ⟨he, h.below hb, Off.of_below hb⟩
end
end Go.Proofs.YtaaeekahhhookaaGreatDoor
