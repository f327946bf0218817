/- The methods of a stream that lies in memory: Mark, Back. slices.Clone of a row. Peek of a stream that lies in memory. Next of a stream that lies in memory, at its end. Next of a stream that lies in memory. Take of a stream that lies in memory: at its end. -/
import Derived.Test.YtjgpjhaeoiddbaaGreatDoorGO
import Derived.Test.YtjgpjhaeoiddbaaGreatDoorGR
import Derived.Test.YtjgpjhaeoiddbaaGreatDoorGN
import Derived.Test.YtjgpjhaeoiddbaaGreatDoorGL
namespace Go.Proofs.YtjgpjhaeoiddbaaGreatDoor
open Go.RowKit Go.Lib

/-- A stream: its block holds the slice of its tokens and its place. -/
def Strm (w : World) (g : Nat) (sl : Value) (p : Int) : Prop := Cells w g 102 [sl, .int .i64 p]
theorem Strm.cells {w : World} {g : Nat} {sl : Value} {p : Int} (h : Strm w g sl p) : w.cell? ⟨g, 0, Option.none⟩ = some sl ∧ w.cell? ⟨g, 1, Option.none⟩ = some (.int .i64 p) := ⟨Cells.cell h 0, Cells.cell h 1⟩

theorem mark_any (g : Nat) (sl : Value) (p : Int) (w : World) (h : Strm w g sl p) :
    Calls Tryz.prog 25 #[.pointer (some ⟨g, 0, Option.none⟩)] w fun e w' => e = .returned (.int .i64 p) ∧ w = w' := by
  obtain ⟨c0, c1⟩ := h.cells
  clear h
  go_enter Tryz.func25, Tryz.ntmps25
  go_wp2_with fail
  go_ret
  exact ⟨rfl, rfl⟩

theorem back_no (g : Nat) (sl : Value) (p n : Int) (w : World) (h : Strm w g sl p) (hn : n < 0 ∨ p < n) :
    Calls Tryz.prog 26 #[.pointer (some ⟨g, 0, Option.none⟩), .int .i64 n] w fun e w' => e = .returned (.bool false) ∧ w = w' := by
  obtain ⟨c0, c1⟩ := h.cells
  clear h
  by_cases h0 : n < 0
  · go_enter Tryz.func26, Tryz.ntmps26
    go_wp2_with fail
    go_ret
    exact ⟨rfl, rfl⟩
  · have h1 : p < n := by omega
    clear hn
    go_enter Tryz.func26, Tryz.ntmps26
    go_wp2_with fail
    go_ret
    exact ⟨rfl, rfl⟩
theorem back_yes (g : Nat) (sl : Value) (p n : Int) (w : World) (h : Strm w g sl p) (h0 : 0 ≤ n) (h1 : n ≤ p) :
    Calls Tryz.prog 26 #[.pointer (some ⟨g, 0, Option.none⟩), .int .i64 n] w fun e w' => e = .returned (.bool true) ∧ w' = w.setCell ⟨g, 1, Option.none⟩ (.int .i64 n) := by
  obtain ⟨c0, c1⟩ := h.cells
  have hf := Cells.free h 1
  clear h
  have hn0 : ¬ n < 0 := by omega
  have hn1 : ¬ p < n := by omega
  go_enter Tryz.func26, Tryz.ntmps26
  go_wp2_with fail
  go_ret
  exact ⟨rfl, rfl⟩

end Go.Proofs.YtjgpjhaeoiddbaaGreatDoor

namespace Go.Proofs.YtjgpjhaeoiddbaaGreatDoor
open Go.RowKit Go.Lib

set_option maxRecDepth 100000 in
set_option maxHeartbeats 1000000 in
theorem clone_any (v : Value) (x : List Int) (w : World) (h : IsRow w w.heap.size v x) (hx : x.length ≤ 1000) :
    Calls Tryz.prog 61 #[v] w fun e w' => (∃ A c, e = .returned (.slice A x.length c) ∧ TRow w' (.slice A x.length c) x) ∧ Below w.heap.size w w' := by
  obtain ⟨i0, hi0, hz0, hz1, hz2⟩ := info_parts Tryz.info_int
  obtain ⟨A, c, rfl, h1, h2, hr⟩ := h
  have hE := fun W => Lib.run_eql_slice_nil (P := Tryz.prog) W 34 3 A x.length c 0 0 Tryz.underlying34
  cases A with
  | none =>
    have hx0 : x.length = 0 := by
      rcases Nat.eq_zero_or_pos x.length with h | h
      · exact h
      · obtain ⟨ad, hn, _⟩ := hr.2 0 (.int .i64 (x[0]?.getD 0)) (by unfold is; rw [List.getElem?_map, List.getElem?_eq_getElem h]; rfl)
        cases hn
    rw [hx0] at hE ⊢
    go_enter Tryz.func61, Tryz.ntmps61
    go_wp2_with fail
    go_ret
    exact ⟨⟨_, _, rfl, Option.none, 0, by rw [hx0], by omega, Nat.zero_le _, fun h => by omega⟩, Below.refl _ _⟩
  | some ad =>
    have hcells : ∀ (j : Nat) u, (is x)[j]? = some u → (w.alloc (.cells #[] 3)).cell? (ad.add j) = some u := fun j u hu => by
      obtain ⟨ad', e, hb, hc⟩ := hr.2 j u hu
      injection e with e
      subst e
      exact keep_cell hc ((Below.refl w.heap.size w).alloc (Nat.le_refl _) _)
    have hown : (w.alloc (.cells #[] 3)).ownsRow w.heap.size 3 1 (.slice (some ⟨w.heap.size, 0, Option.none⟩) 0 0) 0 [] := Cells.own (k := 0) (Cells.new w 3 #[]) (Nat.le_refl _) rfl (Nat.zero_le _) (Nat.le_refl _)
    have HO := Lib.hid hown
    have HC := Lib.hid hcells
    clear hown hcells hr
    go_enter Tryz.func61, Tryz.ntmps61
    go_wp2_with (at_builtin; refine wpList_append_own _ rfl _ _ _ rfl w.heap.size 3 i0 (.int .i64 0) 1 8 Tryz.underlying34 hi0 hz0 hz1 hz2 rfl (by decide) _ _ _ rfl HO.out ad x.length c (is x) rfl (by simp [is]) HC.out (by intro u hu; unfold is at hu; obtain ⟨z, _, rfl⟩ := List.mem_map.1 hu; rfl) (by unfold maxLen; omega) (by omega) (by simp) ?_; intro v3 w3 hown3 hg3 _)
    rw [List.nil_append, Nat.zero_add] at hown3
    have ht := TRow.of_own (x := x) hown3
    obtain ⟨A3, c3, rfl, _⟩ := id ht
    have hbw : Below w.heap.size w w3 := ((Below.refl w.heap.size w).alloc (Nat.le_refl _) (.cells #[] 3)).grown hg3 (by simp) (fun k hk => (HO.out.lt k hk).1)
    go_wp2_with fail
    go_ret
    exact ⟨⟨_, _, rfl, ht⟩, hbw⟩

end Go.Proofs.YtjgpjhaeoiddbaaGreatDoor

namespace Go.Proofs.YtjgpjhaeoiddbaaGreatDoor
open Go.RowKit Go.Lib

set_option maxRecDepth 100000 in
set_option maxHeartbeats 4000000 in
theorem peek_some (g k c : Nat) (A : Option Addr) (l : List Tok) (t : Tok) (w : World) (h : Strm w g (.slice A l.length c) k) (ht : IsToks w w.heap.size (.slice A l.length c) l) (hk : k < l.length) (hg : l[k]? = some t) (hr : t.row.length ≤ 1000) :
    Calls Tryz.prog 18 #[.pointer (some ⟨g, 0, Option.none⟩)] w fun e w' => (∃ A' c', e = .returned (.tuple #[.agg #[.int .i64 t.kind, .string ⟨t.text.toArray⟩, .string ⟨t.num.toArray⟩, .string ⟨t.den.toArray⟩, .slice A' t.row.length c', .int .i64 t.line, .int .i64 t.col], .bool true]) ∧ TRow w' (.slice A' t.row.length c') t.row) ∧ Below w.heap.size w w' := by
  have hba : Below w.heap.size w (w.alloc (.cells #[.int .i64 0, .string ⟨#[]⟩, .string ⟨#[]⟩, .string ⟨#[]⟩, .slice Option.none 0 0, .int .i64 0, .int .i64 0] 38)) := (Below.refl _ _).alloc (Nat.le_refl _) _
  have hs := h.below hba h.lt
  obtain ⟨c0, c1⟩ := Strm.cells hs
  obtain ⟨b1, o1, r1, e1, hb1, hr1, hc1⟩ := IsToks.at_ (ht.lift hba) hk
  obtain rfl : l[k] = t := by rw [List.getElem?_eq_getElem hk] at hg; exact Option.some.inj hg
  subst e1
  generalize l[k]'hk = t at *
  obtain ⟨A1, C1, e1, _⟩ := id hr1
  subst e1
  have p0 := hc1 0 (by omega)
  have p1 := hc1 1 (by omega)
  have p2 := hc1 2 (by omega)
  have p3 := hc1 3 (by omega)
  have p4 := hc1 4 (by omega)
  have p5 := hc1 5 (by omega)
  have p6 := hc1 6 (by omega)
  simp only [tokVals, List.getElem?_cons_succ, List.getElem?_cons_zero, Nat.add_zero] at p0 p1 p2 p3 p4 p5 p6
  have HR := Lib.hid hr1
  have hki : (k : Int) < (l.length : Int) := by omega
  have hkn : ((k : Int) == (l.length : Int)) = false := by rw [beq_eq_false_iff_ne]; omega
  have hnew := Cells.new w 38 #[.int .i64 0, .string ⟨#[]⟩, .string ⟨#[]⟩, .string ⟨#[]⟩, .slice Option.none 0 0, .int .i64 0, .int .i64 0]
  have HB := Lib.hid hba
  have HN := Lib.hid hnew
  clear hba hs h ht hc1 hr1 hb1 hg hnew
  obtain ⟨k0, x0, n0, d0, r0, l0, o0⟩ := t
  dsimp only at *
  go_enter Tryz.func18, Tryz.ntmps18
  go_wp2_with fail
  obtain ⟨W, hW⟩ : ∃ W, W = w.alloc (.cells #[.int .i64 0, .string ⟨#[]⟩, .string ⟨#[]⟩, .string ⟨#[]⟩, .slice Option.none 0 0, .int .i64 0, .int .i64 0] 38) := ⟨_, rfl⟩
  rw [← hW] at HB HN HR c0 c1 p0 p1 p2 p3 p4 p5 p6 ⊢
  clear hW
  go_quiet (fail)
  go_wp2_with fail
  have HB2 : Hid (Below w.heap.size w (W.drewN nq)) := Lib.hid (below_drewN HB.out nq)
  have HN2 : Hid (Cells (W.drewN nq) w.heap.size 38 [.int .i64 0, .string ⟨#[]⟩, .string ⟨#[]⟩, .string ⟨#[]⟩, .slice Option.none 0 0, .int .i64 0, .int .i64 0]) := Lib.hid HN.out
  have HR2 : Hid (IsRow (W.drewN nq) (W.drewN nq).heap.size (.slice A1 r0.length C1) r0) := Lib.hid (HR.out.lift (below_drewN (Below.refl _ _) nq))
  change (W.drewN nq).cell? _ = _ at c0 c1 p0 p1 p2 p3 p4 p5 p6
  generalize W.drewN nq = V at *
  clear HB HN HR
  have m0 := World.new_ne V _ p0
  have m1 := World.new_ne V _ c0
  go_region_held3 (fun w' => w'.cell? ⟨g, 0, Option.none⟩ = some (.slice (some ⟨b1, o1, Option.none⟩) l.length c) ∧ w'.cell? ⟨g, 1, Option.none⟩ = some (.int .i64 (k : Int)) ∧ w'.cell? ⟨b1, o1 + k * 7, Option.none⟩ = some (.int .i64 k0) ∧ w'.cell? ⟨b1, o1 + k * 7 + 1, Option.none⟩ = some (.string ⟨x0.toArray⟩) ∧ w'.cell? ⟨b1, o1 + k * 7 + 2, Option.none⟩ = some (.string ⟨n0.toArray⟩) ∧ w'.cell? ⟨b1, o1 + k * 7 + 3, Option.none⟩ = some (.string ⟨d0.toArray⟩) ∧ w'.cell? ⟨b1, o1 + k * 7 + 4, Option.none⟩ = some (.slice A1 r0.length C1) ∧ w'.cell? ⟨b1, o1 + k * 7 + 5, Option.none⟩ = some (.int .i64 l0) ∧ w'.cell? ⟨b1, o1 + k * 7 + 6, Option.none⟩ = some (.int .i64 o0))
    (first | exact ⟨c0, c1, p0, p1, p2, p3, p4, p5, p6⟩ | go_keep)
    ((first | fail))
  clear c0 c1 p0 p1 p2 p3 p4 p5 p6 m0 m1
  have hb3 : Below V.heap.size V (V.alloc (.cells #[.int .i64 k0, .string ⟨x0.toArray⟩, .string ⟨n0.toArray⟩, .string ⟨d0.toArray⟩, .slice A1 r0.length C1, .int .i64 l0, .int .i64 o0] 38)).drew := below_to_drew ((Below.refl _ _).alloc (Nat.le_refl _) _)
  have hC3 : Cells (V.alloc (.cells #[.int .i64 k0, .string ⟨x0.toArray⟩, .string ⟨n0.toArray⟩, .string ⟨d0.toArray⟩, .slice A1 r0.length C1, .int .i64 l0, .int .i64 o0] 38)).drew V.heap.size 38 [.int .i64 k0, .string ⟨x0.toArray⟩, .string ⟨n0.toArray⟩, .string ⟨d0.toArray⟩, .slice A1 r0.length C1, .int .i64 l0, .int .i64 o0] := Cells.new V _ _
  have hR3 := HR2.out.lift hb3
  have hN3 := HN2.out.below hb3 HN2.out.lt
  have hbw := HB2.out.trans (hb3.mono HB2.out.size)
  have hlt := HN2.out.lt
  generalize (V.alloc (.cells #[.int .i64 k0, .string ⟨x0.toArray⟩, .string ⟨n0.toArray⟩, .string ⟨d0.toArray⟩, .slice A1 r0.length C1, .int .i64 l0, .int .i64 o0] 38)).drew = V3 at *
  obtain ⟨⟨q0, q1, q2, q3, q4, q5, q6⟩, _⟩ := cells7 hC3
  have HC3 := Lib.hid hC3
  have HN3 := Lib.hid hN3
  have HBW := Lib.hid hbw
  have HR3 := Lib.hid hR3
  clear hb3 hC3 hR3 hN3 hbw HB2 HN2 HR2
  go_wp2_with fail
  refine (clone_any _ r0 _ HR3.out hr).mono ?_
  rintro e w5 ⟨⟨A5, c5, rfl, ht5⟩, hb5⟩
  have hC5 := HC3.out.below hb5 HC3.out.lt
  have hN5 := HN3.out.below hb5 HN3.out.lt
  have hbw := HBW.out.trans (hb5.mono HBW.out.size)
  clear q0 q1 q2 q3 q4 q5 q6 HC3 HN3 HBW HR3 hb5
  obtain ⟨⟨q0, q1, q2, q3, q4, q5, q6⟩, f0, f1, f2, f3, f4, f5, f6⟩ := cells7 hC5
  obtain ⟨⟨z0, z1, z2, z3, z4, z5, z6⟩, y0, y1, y2, y3, y4, y5, y6⟩ := cells7 hN5
  have hne : V.heap.size ≠ w.heap.size := by omega
  have hne2 : w.heap.size ≠ V.heap.size := by omega
  have HC5 := Lib.hid hC5
  have HN5 := Lib.hid hN5
  have HT5 := Lib.hid ht5
  have HBW := Lib.hid hbw
  clear hC5 hN5 ht5 hbw
  go_wp2_with fail
  refine bodyPost_ret (v := .tuple #[.agg #[.int .i64 k0, .string ⟨x0.toArray⟩, .string ⟨n0.toArray⟩, .string ⟨d0.toArray⟩, .slice A5 r0.length c5, .int .i64 l0, .int .i64 o0], .bool true]) (by simp (maxDischargeDepth := 10) [results, Tryz.results18, go_sem, z0, z1, z2, z3, z4, z5, z6]) rfl ⟨⟨A5, c5, rfl, ?_⟩, ?_⟩
  · have hT := HT5.out.set HC5.out (k := 4) (by decide) (.slice A5 r0.length c5)
    have hN := HN5.out.far (p := ⟨V.heap.size, 4, Option.none⟩) hne2 (.slice A5 r0.length c5)
    exact ((((((hT.set hN (by decide) _).set (hN.set 0 _) (by decide) _).set ((hN.set 0 _).set 1 _) (by decide) _).set (((hN.set 0 _).set 1 _).set 2 _) (by decide) _).set ((((hN.set 0 _).set 1 _).set 2 _).set 3 _) (by decide) _).set (((((hN.set 0 _).set 1 _).set 2 _).set 3 _).set 4 _) (by decide) _).set ((((((hN.set 0 _).set 1 _).set 2 _).set 3 _).set 4 _).set 5 _) (by decide) _
  · exact below7 (HBW.out.setCell (by show w.heap.size ≤ V.heap.size; omega) _) _ _ _ _ _ _ _

set_option maxRecDepth 100000 in
set_option maxHeartbeats 1000000 in
theorem peek_none (g c n : Nat) (A : Option Addr) (w : World) (h : Strm w g (.slice A n c) n) :
    Calls Tryz.prog 18 #[.pointer (some ⟨g, 0, Option.none⟩)] w fun e w' => e = .returned (.tuple #[tokZA, .bool false]) ∧ Below w.heap.size w w' := by
  unfold tokZA
  have hba : Below w.heap.size w (w.alloc (.cells #[.int .i64 0, .string ⟨#[]⟩, .string ⟨#[]⟩, .string ⟨#[]⟩, .slice Option.none 0 0, .int .i64 0, .int .i64 0] 38)) := (Below.refl _ _).alloc (Nat.le_refl _) _
  have hs := h.below hba h.lt
  obtain ⟨c0, c1⟩ := Strm.cells hs
  have HB := Lib.hid hba
  clear hba hs h
  go_enter Tryz.func18, Tryz.ntmps18
  go_wp2_with fail
  go_quiet (fail)
  go_wp2_with fail
  refine bodyPost_ret (v := .tuple #[.agg #[.int .i64 0, .string ⟨#[]⟩, .string ⟨#[]⟩, .string ⟨#[]⟩, .slice Option.none 0 0, .int .i64 0, .int .i64 0], .bool false]) (by simp [results, Tryz.results18, go_sem]) rfl ⟨rfl, ?_⟩
  exact below7 (below_drewN HB.out _) _ _ _ _ _ _ _

end Go.Proofs.YtjgpjhaeoiddbaaGreatDoor

namespace Go.Proofs.YtjgpjhaeoiddbaaGreatDoor
open Go.RowKit Go.Lib

set_option maxRecDepth 100000 in
set_option maxHeartbeats 1000000 in
theorem next_none (g c n : Nat) (A : Option Addr) (w : World) (h : Strm w g (.slice A n c) n) :
    Calls Tryz.prog 15 #[.pointer (some ⟨g, 0, Option.none⟩)] w fun e w' => e = .returned (.tuple #[tokZA, .bool false]) ∧ Below w.heap.size w w' := by
  have hba : Below w.heap.size w (w.alloc (.cells #[.int .i64 0, .string ⟨#[]⟩, .string ⟨#[]⟩, .string ⟨#[]⟩, .slice Option.none 0 0, .int .i64 0, .int .i64 0] 38)) := (Below.refl _ _).alloc (Nat.le_refl _) _
  have HS := Lib.hid (Cells.below h hba h.lt)
  have HN := Lib.hid (Cells.new w 38 #[.int .i64 0, .string ⟨#[]⟩, .string ⟨#[]⟩, .string ⟨#[]⟩, .slice Option.none 0 0, .int .i64 0, .int .i64 0])
  have HB := Lib.hid hba
  clear hba h
  go_enter Tryz.func15, Tryz.ntmps15
  go_wp2_with fail
  refine (peek_none g c n A _ HS.out).mono ?_
  rintro e w1 ⟨he, hb⟩
  obtain rfl : e = .returned (.tuple #[.agg #[.int .i64 0, .string ⟨#[]⟩, .string ⟨#[]⟩, .string ⟨#[]⟩, .slice Option.none 0 0, .int .i64 0, .int .i64 0], .bool false]) := he
  have hN := (HN.out.below hb HN.out.lt).alloc (.cells #[.int .i64 0, .string ⟨#[]⟩, .string ⟨#[]⟩, .string ⟨#[]⟩, .slice Option.none 0 0, .int .i64 0, .int .i64 0] 38)
  have hM := Cells.new w1 38 #[.int .i64 0, .string ⟨#[]⟩, .string ⟨#[]⟩, .string ⟨#[]⟩, .slice Option.none 0 0, .int .i64 0, .int .i64 0]
  have hbw := HB.out.trans (hb.mono HB.out.size)
  replace hbw := hbw.alloc hbw.size (.cells #[.int .i64 0, .string ⟨#[]⟩, .string ⟨#[]⟩, .string ⟨#[]⟩, .slice Option.none 0 0, .int .i64 0, .int .i64 0] 38)
  obtain ⟨⟨z0, z1, z2, z3, z4, z5, z6⟩, y0, y1, y2, y3, y4, y5, y6⟩ := cells7 hN
  obtain ⟨⟨q0, q1, q2, q3, q4, q5, q6⟩, f0, f1, f2, f3, f4, f5, f6⟩ := cells7 hM
  have HBW := Lib.hid hbw
  clear hN hM hbw HN HB HS hb
  go_wp2_with fail
  refine bodyPost_ret (v := .tuple #[.agg #[.int .i64 0, .string ⟨#[]⟩, .string ⟨#[]⟩, .string ⟨#[]⟩, .slice Option.none 0 0, .int .i64 0, .int .i64 0], .bool false]) (by simp (maxDischargeDepth := 10) [results, Tryz.results15, go_sem, z0, z1, z2, z3, z4, z5, z6]) rfl ⟨rfl, ?_⟩
  exact below7 HBW.out _ _ _ _ _ _ _

end Go.Proofs.YtjgpjhaeoiddbaaGreatDoor

namespace Go.Proofs.YtjgpjhaeoiddbaaGreatDoor
open Go.RowKit Go.Lib

theorem below_set_both {B : Nat} {w W : World} (h : Below B w W) (g j : Nat) (u : Value) : Below B (w.setCell ⟨g, j, Option.none⟩ u) (W.setCell ⟨g, j, Option.none⟩ u) :=
  ⟨h.os, h.tape, h.output, by have := h.size; simpa [World.setCell] using this, fun k hk => by have := h.block k hk; simp [World.setCell, Array.getElem?_modify, this]⟩

set_option maxRecDepth 100000 in
set_option maxHeartbeats 4000000 in
theorem next_some (g k c : Nat) (A : Option Addr) (l : List Tok) (t : Tok) (w : World) (h : Strm w g (.slice A l.length c) k) (ht : IsToks w w.heap.size (.slice A l.length c) l) (hk : k < l.length) (hg : l[k]? = some t) (hr : t.row.length ≤ 1000) (hln : l.length ≤ 1000) :
    Calls Tryz.prog 15 #[.pointer (some ⟨g, 0, Option.none⟩)] w fun e w' => (∃ A' c', e = .returned (.tuple #[.agg #[.int .i64 t.kind, .string ⟨t.text.toArray⟩, .string ⟨t.num.toArray⟩, .string ⟨t.den.toArray⟩, .slice A' t.row.length c', .int .i64 t.line, .int .i64 t.col], .bool true]) ∧ TRow w' (.slice A' t.row.length c') t.row) ∧ Below w.heap.size (w.setCell ⟨g, 1, Option.none⟩ (.int .i64 (k + 1))) w' := by
  have hba : Below w.heap.size w (w.alloc (.cells #[.int .i64 0, .string ⟨#[]⟩, .string ⟨#[]⟩, .string ⟨#[]⟩, .slice Option.none 0 0, .int .i64 0, .int .i64 0] 38)) := (Below.refl _ _).alloc (Nat.le_refl _) _
  have HP := Lib.hid (peek_some g k c A l t _ (Cells.below h hba h.lt) (ht.lift hba) hk hg hr)
  have HS := Lib.hid (Cells.below h hba h.lt)
  have HN := Lib.hid (Cells.new w 38 #[.int .i64 0, .string ⟨#[]⟩, .string ⟨#[]⟩, .string ⟨#[]⟩, .slice Option.none 0 0, .int .i64 0, .int .i64 0])
  have HB := Lib.hid hba
  have hgl : g < w.heap.size := h.lt
  have hki : (k : Int) ≤ 1000 := by omega
  clear hba h ht hg hr
  obtain ⟨k0, x0, n0, d0, r0, l0, o0⟩ := t
  dsimp only at *
  go_enter Tryz.func15, Tryz.ntmps15
  go_wp2_with fail
  refine HP.out.mono ?_
  rintro e w1 ⟨⟨A5, c5, rfl, ht5⟩, hb⟩
  have hT : TRow (w1.alloc (.cells #[.int .i64 k0, .string ⟨x0.toArray⟩, .string ⟨n0.toArray⟩, .string ⟨d0.toArray⟩, .slice A5 r0.length c5, .int .i64 l0, .int .i64 o0] 38)) (.slice A5 r0.length c5) r0 := ht5.below ((Below.refl _ _).alloc (Nat.le_refl _) _)
  have hN := (HN.out.below hb HN.out.lt).alloc (.cells #[.int .i64 k0, .string ⟨x0.toArray⟩, .string ⟨n0.toArray⟩, .string ⟨d0.toArray⟩, .slice A5 r0.length c5, .int .i64 l0, .int .i64 o0] 38)
  have hS : Cells _ g _ _ := (HS.out.below hb HS.out.lt).alloc (.cells #[.int .i64 k0, .string ⟨x0.toArray⟩, .string ⟨n0.toArray⟩, .string ⟨d0.toArray⟩, .slice A5 r0.length c5, .int .i64 l0, .int .i64 o0] 38)
  have hM := Cells.new w1 38 #[.int .i64 k0, .string ⟨x0.toArray⟩, .string ⟨n0.toArray⟩, .string ⟨d0.toArray⟩, .slice A5 r0.length c5, .int .i64 l0, .int .i64 o0]
  have hbw := HB.out.trans (hb.mono HB.out.size)
  have hs1 := hbw.size
  replace hbw := hbw.alloc hbw.size (.cells #[.int .i64 k0, .string ⟨x0.toArray⟩, .string ⟨n0.toArray⟩, .string ⟨d0.toArray⟩, .slice A5 r0.length c5, .int .i64 l0, .int .i64 o0] 38)
  have hlt : w.heap.size < w1.heap.size := by have := hb.size; simp at this; omega
  have s1 := hS.cell 1
  have t1 := hS.free 1
  simp only [List.getElem?_cons_succ, List.getElem?_cons_zero] at s1
  obtain ⟨⟨z0, z1, z2, z3, z4, z5, z6⟩, y0, y1, y2, y3, y4, y5, y6⟩ := cells7 hN
  obtain ⟨⟨q0, q1, q2, q3, q4, q5, q6⟩, f0, f1, f2, f3, f4, f5, f6⟩ := cells7 hM
  have e1 : g ≠ w.heap.size := by omega
  have e2 : w.heap.size ≠ g := by omega
  have e3 : g ≠ w1.heap.size := by omega
  have e4 : w1.heap.size ≠ g := by omega
  have HBW := Lib.hid hbw
  have HT := Lib.hid hT
  have HN2 := Lib.hid hN
  have HS2 := Lib.hid hS
  clear hN hM hbw HN HB HS hb hS hT ht5 HP
  go_wp2_with fail
  refine bodyPost_ret (v := .tuple #[.agg #[.int .i64 k0, .string ⟨x0.toArray⟩, .string ⟨n0.toArray⟩, .string ⟨d0.toArray⟩, .slice A5 r0.length c5, .int .i64 l0, .int .i64 o0], .bool true]) (by simp (maxDischargeDepth := 10) [results, Tryz.results15, go_sem, z0, z1, z2, z3, z4, z5, z6]) rfl ⟨⟨A5, c5, rfl, ?_⟩, ?_⟩
  · have hT := HT.out.set HS2.out (k := 1) (by decide) (.int .i64 (k + 1))
    have hN := HN2.out.far (p := ⟨g, 1, Option.none⟩) e2 (.int .i64 (k + 1))
    exact ((((((hT.set hN (by decide) _).set (hN.set 0 _) (by decide) _).set ((hN.set 0 _).set 1 _) (by decide) _).set (((hN.set 0 _).set 1 _).set 2 _) (by decide) _).set ((((hN.set 0 _).set 1 _).set 2 _).set 3 _) (by decide) _).set (((((hN.set 0 _).set 1 _).set 2 _).set 3 _).set 4 _) (by decide) _).set ((((((hN.set 0 _).set 1 _).set 2 _).set 3 _).set 4 _).set 5 _) (by decide) _
  · exact ((((((((below_set_both HBW.out g 1 (.int .i64 (k + 1))).setCell (Nat.le_refl _) _).setCell (Nat.le_refl _) _).setCell (Nat.le_refl _) _).setCell (Nat.le_refl _) _).setCell (Nat.le_refl _) _).setCell (Nat.le_refl _) _).setCell (Nat.le_refl _) _)

end Go.Proofs.YtjgpjhaeoiddbaaGreatDoor

namespace Go.Proofs.YtjgpjhaeoiddbaaGreatDoor
open Go.RowKit Go.Lib

set_option maxRecDepth 100000 in
set_option maxHeartbeats 1000000 in
theorem take_none (g c n : Nat) (q : Int) (A : Option Addr) (w : World) (h : Strm w g (.slice A n c) n) :
    Calls Tryz.prog 19 #[.pointer (some ⟨g, 0, Option.none⟩), .int .i64 q] w fun e w' => e = .returned (.tuple #[tokZA, .bool false]) ∧ Below w.heap.size w w' := by
  have hba : Below w.heap.size w (w.alloc (.cells #[.int .i64 0, .string ⟨#[]⟩, .string ⟨#[]⟩, .string ⟨#[]⟩, .slice Option.none 0 0, .int .i64 0, .int .i64 0] 38)) := (Below.refl _ _).alloc (Nat.le_refl _) _
  have HS := Lib.hid (Cells.below h hba h.lt)
  have HN := Lib.hid (Cells.new w 38 #[.int .i64 0, .string ⟨#[]⟩, .string ⟨#[]⟩, .string ⟨#[]⟩, .slice Option.none 0 0, .int .i64 0, .int .i64 0])
  have HB := Lib.hid hba
  clear hba h
  go_enter Tryz.func19, Tryz.ntmps19
  go_wp2_with fail
  refine (peek_none g c n A _ HS.out).mono ?_
  rintro e w1 ⟨he, hb⟩
  obtain rfl : e = .returned (.tuple #[.agg #[.int .i64 0, .string ⟨#[]⟩, .string ⟨#[]⟩, .string ⟨#[]⟩, .slice Option.none 0 0, .int .i64 0, .int .i64 0], .bool false]) := he
  have hN := (HN.out.below hb HN.out.lt).alloc (.cells #[.int .i64 0, .string ⟨#[]⟩, .string ⟨#[]⟩, .string ⟨#[]⟩, .slice Option.none 0 0, .int .i64 0, .int .i64 0] 38)
  have hbw := HB.out.trans (hb.mono HB.out.size)
  replace hbw := hbw.alloc hbw.size (.cells #[.int .i64 0, .string ⟨#[]⟩, .string ⟨#[]⟩, .string ⟨#[]⟩, .slice Option.none 0 0, .int .i64 0, .int .i64 0] 38)
  obtain ⟨⟨z0, z1, z2, z3, z4, z5, z6⟩, y0, y1, y2, y3, y4, y5, y6⟩ := cells7 hN
  have HBW := Lib.hid hbw
  clear hN hbw HN HB HS hb
  go_wp2_with fail
  refine bodyPost_ret (v := .tuple #[.agg #[.int .i64 0, .string ⟨#[]⟩, .string ⟨#[]⟩, .string ⟨#[]⟩, .slice Option.none 0 0, .int .i64 0, .int .i64 0], .bool false]) (by simp (maxDischargeDepth := 10) [results, Tryz.results19, go_sem, z0, z1, z2, z3, z4, z5, z6]) rfl ⟨rfl, ?_⟩
  exact below7 HBW.out _ _ _ _ _ _ _

end Go.Proofs.YtjgpjhaeoiddbaaGreatDoor
