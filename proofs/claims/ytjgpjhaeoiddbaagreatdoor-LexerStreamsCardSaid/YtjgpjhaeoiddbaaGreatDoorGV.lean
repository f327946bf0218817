/- Take of a stream that lies in memory: another kind. Accept of a stream that lies in memory: at its end. Take of a stream that lies in memory: the kind that is asked for. Accept of a stream that lies in memory: a token that is not the text; the text. A stream that lies in memory: what a call may change. Skip of a stream that lies in memory. -/
import Derived.Test.YtjgpjhaeoiddbaaGreatDoorGU
namespace Go.Proofs.YtjgpjhaeoiddbaaGreatDoor
open Go.RowKit Go.Lib

set_option maxRecDepth 100000 in
set_option maxHeartbeats 1000000 in
theorem take_other (g k c : Nat) (q : Int) (A : Option Addr) (l : List Tok) (t : Tok) (w : World) (h : Strm w g (.slice A l.length c) k) (ht : IsToks w w.heap.size (.slice A l.length c) l) (hk : k < l.length) (hg : l[k]? = some t) (hr : t.row.length ≤ 1000) (hq : t.kind ≠ q) :
    Calls Tryz.prog 19 #[.pointer (some ⟨g, 0, Option.none⟩), .int .i64 q] w fun e w' => e = .returned (.tuple #[tokZA, .bool false]) ∧ Below w.heap.size w w' := by
  have hba : Below w.heap.size w (w.alloc (.cells #[.int .i64 0, .string ⟨#[]⟩, .string ⟨#[]⟩, .string ⟨#[]⟩, .slice Option.none 0 0, .int .i64 0, .int .i64 0] 38)) := (Below.refl _ _).alloc (Nat.le_refl _) _
  have HP := Lib.hid (peek_some g k c A l t _ (Cells.below h hba h.lt) (ht.lift hba) hk hg hr)
  have HN := Lib.hid (Cells.new w 38 #[.int .i64 0, .string ⟨#[]⟩, .string ⟨#[]⟩, .string ⟨#[]⟩, .slice Option.none 0 0, .int .i64 0, .int .i64 0])
  have HB := Lib.hid hba
  have hqb : (t.kind != q) = true := by simpa using hq
  clear hba h ht hg hr hq
  obtain ⟨k0, x0, n0, d0, r0, l0, o0⟩ := t
  dsimp only at *
  go_enter Tryz.func19, Tryz.ntmps19
  go_wp2_with fail
  refine HP.out.mono ?_
  rintro e w1 ⟨⟨A5, c5, rfl, _⟩, hb⟩
  have hN := (HN.out.below hb HN.out.lt).alloc (.cells #[.int .i64 k0, .string ⟨x0.toArray⟩, .string ⟨n0.toArray⟩, .string ⟨d0.toArray⟩, .slice A5 r0.length c5, .int .i64 l0, .int .i64 o0] 38)
  have hbw := HB.out.trans (hb.mono HB.out.size)
  replace hbw := hbw.alloc hbw.size (.cells #[.int .i64 k0, .string ⟨x0.toArray⟩, .string ⟨n0.toArray⟩, .string ⟨d0.toArray⟩, .slice A5 r0.length c5, .int .i64 l0, .int .i64 o0] 38)
  obtain ⟨⟨z0, z1, z2, z3, z4, z5, z6⟩, y0, y1, y2, y3, y4, y5, y6⟩ := cells7 hN
  have HBW := Lib.hid hbw
  clear hN hbw HN HB HP hb
  go_wp2_with fail
  refine bodyPost_ret (v := .tuple #[.agg #[.int .i64 0, .string ⟨#[]⟩, .string ⟨#[]⟩, .string ⟨#[]⟩, .slice Option.none 0 0, .int .i64 0, .int .i64 0], .bool false]) (by simp (maxDischargeDepth := 10) [results, Tryz.results19, go_sem, z0, z1, z2, z3, z4, z5, z6]) rfl ⟨rfl, ?_⟩
  exact below7 HBW.out _ _ _ _ _ _ _

end Go.Proofs.YtjgpjhaeoiddbaaGreatDoor

namespace Go.Proofs.YtjgpjhaeoiddbaaGreatDoor
open Go.RowKit Go.Lib

set_option maxRecDepth 100000 in
set_option maxHeartbeats 1000000 in
theorem accept_none (g c n : Nat) (s : List UInt8) (A : Option Addr) (w : World) (h : Strm w g (.slice A n c) n) :
    Calls Tryz.prog 20 #[.pointer (some ⟨g, 0, Option.none⟩), .string ⟨s.toArray⟩] w fun e w' => e = .returned (.bool false) ∧ Below w.heap.size w w' := by
  have HP := Lib.hid (peek_none g c n A _ h)
  clear h
  go_enter Tryz.func20, Tryz.ntmps20
  go_wp2_with fail
  refine HP.out.mono ?_
  rintro e w1 ⟨he, hb⟩
  obtain rfl : e = .returned (.tuple #[.agg #[.int .i64 0, .string ⟨#[]⟩, .string ⟨#[]⟩, .string ⟨#[]⟩, .slice Option.none 0 0, .int .i64 0, .int .i64 0], .bool false]) := he
  have HBW := Lib.hid (hb.alloc hb.size (.cells #[.int .i64 0, .string ⟨#[]⟩, .string ⟨#[]⟩, .string ⟨#[]⟩, .slice Option.none 0 0, .int .i64 0, .int .i64 0] 38))
  clear hb HP
  go_wp2_with fail
  go_ret
  exact ⟨rfl, HBW.out⟩

end Go.Proofs.YtjgpjhaeoiddbaaGreatDoor

namespace Go.Proofs.YtjgpjhaeoiddbaaGreatDoor
open Go.RowKit Go.Lib

set_option maxRecDepth 100000 in
set_option maxHeartbeats 4000000 in
theorem take_some (g k c : Nat) (A : Option Addr) (l : List Tok) (t : Tok) (w : World) (h : Strm w g (.slice A l.length c) k) (ht : IsToks w w.heap.size (.slice A l.length c) l) (hk : k < l.length) (hg : l[k]? = some t) (hr : t.row.length ≤ 1000) (hln : l.length ≤ 1000) :
    Calls Tryz.prog 19 #[.pointer (some ⟨g, 0, Option.none⟩), .int .i64 t.kind] w fun e w' => (∃ A' c', e = .returned (.tuple #[.agg #[.int .i64 t.kind, .string ⟨t.text.toArray⟩, .string ⟨t.num.toArray⟩, .string ⟨t.den.toArray⟩, .slice A' t.row.length c', .int .i64 t.line, .int .i64 t.col], .bool true]) ∧ TRow w' (.slice A' t.row.length c') t.row) ∧ Below w.heap.size (w.setCell ⟨g, 1, Option.none⟩ (.int .i64 (k + 1))) w' := by
  have hba : Below w.heap.size w (w.alloc (.cells #[.int .i64 0, .string ⟨#[]⟩, .string ⟨#[]⟩, .string ⟨#[]⟩, .slice Option.none 0 0, .int .i64 0, .int .i64 0] 38)) := (Below.refl _ _).alloc (Nat.le_refl _) _
  have HP := Lib.hid (peek_some g k c A l t _ (Cells.below h hba h.lt) (ht.lift hba) hk hg hr)
  have HX := Lib.hid (fun W h ht => next_some g k c A l t W h ht hk hg hr hln)
  have HS := Lib.hid (Cells.below h hba h.lt)
  have HT := Lib.hid (ht.lift hba)
  have HN := Lib.hid (Cells.new w 38 #[.int .i64 0, .string ⟨#[]⟩, .string ⟨#[]⟩, .string ⟨#[]⟩, .slice Option.none 0 0, .int .i64 0, .int .i64 0])
  have HB := Lib.hid hba
  have hgl : g < w.heap.size := h.lt
  clear hba h ht hg hr
  obtain ⟨k0, x0, n0, d0, r0, l0, o0⟩ := t
  dsimp only at *
  go_enter Tryz.func19, Tryz.ntmps19
  go_wp2_with fail
  refine HP.out.mono ?_
  rintro e w1 ⟨⟨A5, c5, rfl, _⟩, hb⟩
  have hba : Below w1.heap.size w1 (w1.alloc (.cells #[.int .i64 k0, .string ⟨x0.toArray⟩, .string ⟨n0.toArray⟩, .string ⟨d0.toArray⟩, .slice A5 r0.length c5, .int .i64 l0, .int .i64 o0] 38)) := (Below.refl _ _).alloc (Nat.le_refl _) _
  have HN2 := Lib.hid ((HN.out.below hb HN.out.lt).below hba (HN.out.below hb HN.out.lt).lt)
  have HS2 : Hid (Strm _ g _ _) := Lib.hid ((HS.out.below hb HS.out.lt).below hba (HS.out.below hb HS.out.lt).lt)
  have HT2 := Lib.hid ((HT.out.lift hb).lift hba)
  have hbw := HB.out.trans (hb.mono HB.out.size)
  have HB2 := Lib.hid (hbw.trans (hba.mono hbw.size))
  clear hb hba hbw HN HS HT HB HP
  go_wp2_with fail
  refine (HX.out _ HS2.out HT2.out).mono ?_
  rintro e w2 ⟨⟨A6, c6, rfl, ht6⟩, hb⟩
  have e2 : w.heap.size ≠ g := by omega
  have hN := (HN2.out.far (p := ⟨g, 1, Option.none⟩) e2 (.int .i64 (k + 1))).below hb HN2.out.lt
  obtain ⟨⟨z0, z1, z2, z3, z4, z5, z6⟩, y0, y1, y2, y3, y4, y5, y6⟩ := cells7 hN
  have HN3 := Lib.hid hN
  have HT3 := Lib.hid ht6
  have HB3 := Lib.hid ((below_set_both HB2.out g 1 (.int .i64 (k + 1))).trans (hb.mono HB2.out.size))
  clear hN ht6 hb HN2 HS2 HT2 HB2 HX
  go_wp2_with fail
  refine bodyPost_ret (v := .tuple #[.agg #[.int .i64 k0, .string ⟨x0.toArray⟩, .string ⟨n0.toArray⟩, .string ⟨d0.toArray⟩, .slice A6 r0.length c6, .int .i64 l0, .int .i64 o0], .bool true]) (by simp (maxDischargeDepth := 10) [results, Tryz.results19, go_sem, z0, z1, z2, z3, z4, z5, z6]) rfl ⟨⟨A6, c6, rfl, ?_⟩, ?_⟩
  · have hT := HT3.out
    have hN := HN3.out
    exact ((((((hT.set hN (by decide) _).set (hN.set 0 _) (by decide) _).set ((hN.set 0 _).set 1 _) (by decide) _).set (((hN.set 0 _).set 1 _).set 2 _) (by decide) _).set ((((hN.set 0 _).set 1 _).set 2 _).set 3 _) (by decide) _).set (((((hN.set 0 _).set 1 _).set 2 _).set 3 _).set 4 _) (by decide) _).set ((((((hN.set 0 _).set 1 _).set 2 _).set 3 _).set 4 _).set 5 _) (by decide) _
  · exact ((((((HB3.out.setCell (Nat.le_refl _) _).setCell (Nat.le_refl _) _).setCell (Nat.le_refl _) _).setCell (Nat.le_refl _) _).setCell (Nat.le_refl _) _).setCell (Nat.le_refl _) _).setCell (Nat.le_refl _) _

end Go.Proofs.YtjgpjhaeoiddbaaGreatDoor

namespace Go.Proofs.YtjgpjhaeoiddbaaGreatDoor
open Go.RowKit Go.Lib

set_option maxRecDepth 100000 in
set_option maxHeartbeats 4000000 in
theorem accept_kind (g k c : Nat) (s : List UInt8) (A : Option Addr) (l : List Tok) (t : Tok) (w : World) (h : Strm w g (.slice A l.length c) k) (ht : IsToks w w.heap.size (.slice A l.length c) l) (hk : k < l.length) (hg : l[k]? = some t) (hr : t.row.length ≤ 1000) (h1 : t.kind ≠ 1) (h5 : t.kind ≠ 5) :
    Calls Tryz.prog 20 #[.pointer (some ⟨g, 0, Option.none⟩), .string ⟨s.toArray⟩] w fun e w' => e = .returned (.bool false) ∧ Below w.heap.size w w' := by
  have HP := Lib.hid (peek_some g k c A l t _ h ht hk hg hr)
  have q1 : (t.kind != 1) = true := by simpa using h1
  have q5 : (t.kind != 5) = true := by simpa using h5
  clear h ht hg hr
  obtain ⟨k0, x0, n0, d0, r0, l0, o0⟩ := t
  dsimp only at *
  go_enter Tryz.func20, Tryz.ntmps20
  go_wp2_with fail
  refine HP.out.mono ?_
  rintro e w1 ⟨⟨A5, c5, rfl, _⟩, hb⟩
  have HBW := Lib.hid (hb.alloc hb.size (.cells #[.int .i64 k0, .string ⟨x0.toArray⟩, .string ⟨n0.toArray⟩, .string ⟨d0.toArray⟩, .slice A5 r0.length c5, .int .i64 l0, .int .i64 o0] 38))
  clear hb HP
  go_wp2_with fail
  go_ret
  exact ⟨rfl, HBW.out⟩

set_option maxRecDepth 100000 in
set_option maxHeartbeats 4000000 in
theorem accept_text (g k c : Nat) (s : List UInt8) (A : Option Addr) (l : List Tok) (t : Tok) (w : World) (h : Strm w g (.slice A l.length c) k) (ht : IsToks w w.heap.size (.slice A l.length c) l) (hk : k < l.length) (hg : l[k]? = some t) (hr : t.row.length ≤ 1000) (hs : t.text ≠ s) :
    Calls Tryz.prog 20 #[.pointer (some ⟨g, 0, Option.none⟩), .string ⟨s.toArray⟩] w fun e w' => e = .returned (.bool false) ∧ Below w.heap.size w w' := by
  have HP := Lib.hid (peek_some g k c A l t _ h ht hk hg hr)
  by_cases h1 : t.kind = 1
  · have hsb : (t.text == s) = false := by simpa using hs
    clear h ht hg hr hs
    obtain ⟨k0, x0, n0, d0, r0, l0, o0⟩ := t
    dsimp only at *
    subst h1
    go_enter Tryz.func20, Tryz.ntmps20
    go_wp2_with fail
    refine HP.out.mono ?_
    rintro e w1 ⟨⟨A5, c5, rfl, _⟩, hb⟩
    have HBW := Lib.hid (hb.alloc hb.size (.cells #[.int .i64 1, .string ⟨x0.toArray⟩, .string ⟨n0.toArray⟩, .string ⟨d0.toArray⟩, .slice A5 r0.length c5, .int .i64 l0, .int .i64 o0] 38))
    clear hb HP
    go_wp2_with fail
    go_ret
    exact ⟨rfl, HBW.out⟩
  by_cases h5 : t.kind = 5
  · have hsb : (t.text == s) = false := by simpa using hs
    clear h ht hg hr hs h1
    obtain ⟨k0, x0, n0, d0, r0, l0, o0⟩ := t
    dsimp only at *
    subst h5
    go_enter Tryz.func20, Tryz.ntmps20
    go_wp2_with fail
    refine HP.out.mono ?_
    rintro e w1 ⟨⟨A5, c5, rfl, _⟩, hb⟩
    have HBW := Lib.hid (hb.alloc hb.size (.cells #[.int .i64 5, .string ⟨x0.toArray⟩, .string ⟨n0.toArray⟩, .string ⟨d0.toArray⟩, .slice A5 r0.length c5, .int .i64 l0, .int .i64 o0] 38))
    clear hb HP
    go_wp2_with fail
    go_ret
    exact ⟨rfl, HBW.out⟩
  exact accept_kind g k c s A l t w h ht hk hg hr h1 h5

set_option maxRecDepth 100000 in
set_option maxHeartbeats 4000000 in
theorem accept_yes (g k c : Nat) (A : Option Addr) (l : List Tok) (t : Tok) (w : World) (h : Strm w g (.slice A l.length c) k) (ht : IsToks w w.heap.size (.slice A l.length c) l) (hk : k < l.length) (hg : l[k]? = some t) (hr : t.row.length ≤ 1000) (hln : l.length ≤ 1000) (hkd : t.kind = 1 ∨ t.kind = 5) :
    Calls Tryz.prog 20 #[.pointer (some ⟨g, 0, Option.none⟩), .string ⟨t.text.toArray⟩] w fun e w' => e = .returned (.bool true) ∧ Below w.heap.size (w.setCell ⟨g, 1, Option.none⟩ (.int .i64 (k + 1))) w' := by
  have HP := Lib.hid (peek_some g k c A l t _ h ht hk hg hr)
  have HS := Lib.hid h
  have hgl : g < w.heap.size := Cells.lt h
  have hki : (k : Int) ≤ 1000 := by omega
  clear h ht hg hr
  obtain ⟨k0, x0, n0, d0, r0, l0, o0⟩ := t
  dsimp only at *
  rcases hkd with rfl | rfl
  · go_enter Tryz.func20, Tryz.ntmps20
    go_wp2_with fail
    refine HP.out.mono ?_
    rintro e w1 ⟨⟨A5, c5, rfl, _⟩, hb⟩
    have hba : Below w1.heap.size w1 (w1.alloc (.cells #[.int .i64 1, .string ⟨x0.toArray⟩, .string ⟨n0.toArray⟩, .string ⟨d0.toArray⟩, .slice A5 r0.length c5, .int .i64 l0, .int .i64 o0] 38)) := (Below.refl _ _).alloc (Nat.le_refl _) _
    have hS : Cells _ g _ _ := (Cells.below HS.out hb hgl).alloc (.cells #[.int .i64 1, .string ⟨x0.toArray⟩, .string ⟨n0.toArray⟩, .string ⟨d0.toArray⟩, .slice A5 r0.length c5, .int .i64 l0, .int .i64 o0] 38)
    have s1 := hS.cell 1
    have t1 := hS.free 1
    simp only [List.getElem?_cons_succ, List.getElem?_cons_zero] at s1
    have HBW := Lib.hid (hb.alloc hb.size (.cells #[.int .i64 1, .string ⟨x0.toArray⟩, .string ⟨n0.toArray⟩, .string ⟨d0.toArray⟩, .slice A5 r0.length c5, .int .i64 l0, .int .i64 o0] 38))
    clear hb HP hS hba HS
    go_wp2_with fail
    go_ret
    exact ⟨rfl, below_set_both HBW.out g 1 (.int .i64 (k + 1))⟩
  · go_enter Tryz.func20, Tryz.ntmps20
    go_wp2_with fail
    refine HP.out.mono ?_
    rintro e w1 ⟨⟨A5, c5, rfl, _⟩, hb⟩
    have hba : Below w1.heap.size w1 (w1.alloc (.cells #[.int .i64 5, .string ⟨x0.toArray⟩, .string ⟨n0.toArray⟩, .string ⟨d0.toArray⟩, .slice A5 r0.length c5, .int .i64 l0, .int .i64 o0] 38)) := (Below.refl _ _).alloc (Nat.le_refl _) _
    have hS : Cells _ g _ _ := (Cells.below HS.out hb hgl).alloc (.cells #[.int .i64 5, .string ⟨x0.toArray⟩, .string ⟨n0.toArray⟩, .string ⟨d0.toArray⟩, .slice A5 r0.length c5, .int .i64 l0, .int .i64 o0] 38)
    have s1 := hS.cell 1
    have t1 := hS.free 1
    simp only [List.getElem?_cons_succ, List.getElem?_cons_zero] at s1
    have HBW := Lib.hid (hb.alloc hb.size (.cells #[.int .i64 5, .string ⟨x0.toArray⟩, .string ⟨n0.toArray⟩, .string ⟨d0.toArray⟩, .slice A5 r0.length c5, .int .i64 l0, .int .i64 o0] 38))
    clear hb HP hS hba HS
    go_wp2_with fail
    go_ret
    exact ⟨rfl, below_set_both HBW.out g 1 (.int .i64 (k + 1))⟩

end Go.Proofs.YtjgpjhaeoiddbaaGreatDoor

namespace Go.Proofs.YtjgpjhaeoiddbaaGreatDoor
open Go.RowKit Go.Lib

/-- Of what was there, block g alone may differ. -/
structure Off (B g : Nat) (w w' : World) : Prop where
  os : w'.os = w.os
  tape : w'.tape = w.tape
  output : w'.output = w.output
  size : w.heap.size ≤ w'.heap.size
  block : ∀ k, k < B → k ≠ g → w'.heap[k]? = w.heap[k]?
theorem Off.refl (B g : Nat) (w : World) : Off B g w w := ⟨rfl, rfl, rfl, Nat.le_refl _, fun _ _ _ => rfl⟩
theorem Off.of_below {B g : Nat} {w w' : World} (h : Below B w w') : Off B g w w' := ⟨h.os, h.tape, h.output, h.size, fun k hk _ => h.block k hk⟩
theorem Off.of_set {B g j : Nat} {u : Value} {w w' : World} (h : Below B (w.setCell ⟨g, j, Option.none⟩ u) w') : Off B g w w' :=
  ⟨h.os, h.tape, h.output, by have := h.size; simpa [World.setCell] using this, fun k hk hn => (h.block k hk).trans (Below.heap_setCell _ _ _ _ (by show k ≠ g; exact hn))⟩
theorem Off.trans {B g : Nat} {a b c : World} (h : Off B g a b) (h2 : Off B g b c) : Off B g a c :=
  ⟨h2.os.trans h.os, h2.tape.trans h.tape, h2.output.trans h.output, Nat.le_trans h.size h2.size, fun k hk hn => (h2.block k hk hn).trans (h.block k hk hn)⟩
theorem Off.mono {B B' g : Nat} {w w' : World} (h : Off B g w w') (hB : B' ≤ B) : Off B' g w w' := ⟨h.os, h.tape, h.output, h.size, fun k hk hn => h.block k (by omega) hn⟩
theorem Off.below {B g : Nat} {w w' : World} (h : Off B g w w') (hB : B ≤ g) : Below B w w' := ⟨h.os, h.tape, h.output, h.size, fun k hk => h.block k hk (by omega)⟩
theorem Off.setCell {B g : Nat} {w w' : World} (h : Off B g w w') {p : Addr} (hp : B ≤ p.block) (u : Value) : Off B g w (w'.setCell p u) :=
  ⟨h.os, h.tape, h.output, by have := h.size; simpa [World.setCell] using this, fun k hk hn => (Below.heap_setCell _ _ _ _ (by show k ≠ p.block; omega)).trans (h.block k hk hn)⟩
theorem Off.store7 {B g b : Nat} {w W : World} (h : Off B g w W) (hb : B ≤ b) (a0 a1 a2 a3 a4 a5 a6 : Value) : Off B g w (((((((W.setCell ⟨b, 0, Option.none⟩ a0).setCell ⟨b, 1, Option.none⟩ a1).setCell ⟨b, 2, Option.none⟩ a2).setCell ⟨b, 3, Option.none⟩ a3).setCell ⟨b, 4, Option.none⟩ a4).setCell ⟨b, 5, Option.none⟩ a5).setCell ⟨b, 6, Option.none⟩ a6) :=
  ((((((h.setCell (p := ⟨b, 0, Option.none⟩) hb a0).setCell (p := ⟨b, 1, Option.none⟩) hb a1).setCell (p := ⟨b, 2, Option.none⟩) hb a2).setCell (p := ⟨b, 3, Option.none⟩) hb a3).setCell (p := ⟨b, 4, Option.none⟩) hb a4).setCell (p := ⟨b, 5, Option.none⟩) hb a5).setCell (p := ⟨b, 6, Option.none⟩) hb a6
theorem Cells.far7 {W : World} {g b : Nat} {T : TypeId} {xs : List Value} (h : Cells W g T xs) (hb : g ≠ b) (a0 a1 a2 a3 a4 a5 a6 : Value) : Cells (((((((W.setCell ⟨b, 0, Option.none⟩ a0).setCell ⟨b, 1, Option.none⟩ a1).setCell ⟨b, 2, Option.none⟩ a2).setCell ⟨b, 3, Option.none⟩ a3).setCell ⟨b, 4, Option.none⟩ a4).setCell ⟨b, 5, Option.none⟩ a5).setCell ⟨b, 6, Option.none⟩ a6) g T xs :=
  ((((((h.far (p := ⟨b, 0, Option.none⟩) hb a0).far (p := ⟨b, 1, Option.none⟩) hb a1).far (p := ⟨b, 2, Option.none⟩) hb a2).far (p := ⟨b, 3, Option.none⟩) hb a3).far (p := ⟨b, 4, Option.none⟩) hb a4).far (p := ⟨b, 5, Option.none⟩) hb a5).far (p := ⟨b, 6, Option.none⟩) hb a6
theorem Off.base {B B0 g : Nat} {w w' : World} (h : Off B g w w') (hB : B0 ≤ B) (hg : B0 ≤ g) : Below B0 w w' := (h.mono hB).below hg
theorem tokEq_self (t : Tok) : tokEq t t = true := by unfold tokEq; simp [sameB]
theorem Off.cells {B g g' : Nat} {w w' : World} {T : TypeId} {xs : List Value} (h : Off B g w w') (hc : Cells w g' T xs) (hl : g' < B) (hn : g' ≠ g) : Cells w' g' T xs := (h.block g' hl hn).trans hc
theorem TRow.off {w w' : World} {g : Nat} {T : TypeId} {xs : List Value} {v : Value} {x : List Int} (h : TRow w v x) (hc : Cells w g T xs) (hT : T ≠ 3) (ho : Off w.heap.size g w w') : TRow w' v x := h.keep fun g' cur p hcur => ho.block g' (Array.getElem?_eq_some_iff.1 hcur).1 (fun e => by
  subst e
  unfold Cells at hc
  rw [hc] at hcur
  injection hcur with hcur
  injection hcur with _ hcur _
  exact hT hcur)
theorem Toks.off {w w' : World} {base g : Nat} {v : Value} {l : List Tok} {T : TypeId} {xs : List Value} (h : Toks w base v l) (hg : g < base) (hc : Cells w g T xs) (hT : T ≠ 3) (ho : Off w.heap.size g w w') : Toks w' base v l := by
  obtain ⟨rvs, h1, h2, h3⟩ := h
  refine ⟨rvs, h1, ⟨h2.1, ?_⟩, fun k t rv a b => (h3 k t rv a b).off hc hT ho⟩
  rcases h2.2 with hn | ⟨g', cap, cur, rfl, hb, hh, rest⟩
  · exact .inl hn
  · exact .inr ⟨g', cap, cur, rfl, hb, (ho.block g' (Array.getElem?_eq_some_iff.1 hh).1 (by omega)).trans hh, rest⟩

/-- A stream over tokens of its own, with its place. -/
structure Str (w : World) (g : Nat) (A : Option Addr) (c : Nat) (l : List Tok) (k : Nat) : Prop where
  strm : Strm w g (.slice A l.length c) k
  toks : Toks w (g + 1) (.slice A l.length c) l
theorem Str.off {w w' : World} {g c k k' : Nat} {A : Option Addr} {l : List Tok} (h : Str w g A c l k) (ho : Off w.heap.size g w w') (hs : Strm w' g (.slice A l.length c) k') : Str w' g A c l k' := ⟨hs, h.toks.off (Nat.lt_succ_self _) h.strm (by decide) ho⟩
theorem Str.below {w w' : World} {g c k : Nat} {A : Option Addr} {l : List Tok} (h : Str w g A c l k) (hb : Below w.heap.size w w') : Str w' g A c l k := ⟨Cells.below h.strm hb (Cells.lt h.strm), h.toks.below hb⟩
theorem Str.set {w w' : World} {g c k k' : Nat} {A : Option Addr} {l : List Tok} (h : Str w g A c l k) (hb : Below w.heap.size (w.setCell ⟨g, 1, Option.none⟩ (.int .i64 (k' : Nat))) w') : Str w' g A c l k' :=
  h.off (Off.of_set hb) (Cells.below (Cells.set h.strm 1 _) hb (Cells.lt h.strm))

/-- The token that a call answers with. -/
def TokIs (w : World) (t : Tok) (e : Ending) : Prop := ∃ A' c', e = .returned (.tuple #[.agg #[.int .i64 t.kind, .string ⟨t.text.toArray⟩, .string ⟨t.num.toArray⟩, .string ⟨t.den.toArray⟩, .slice A' t.row.length c', .int .i64 t.line, .int .i64 t.col], .bool true]) ∧ TRow w (.slice A' t.row.length c') t.row

section
variable {g k c : Nat} {A : Option Addr} {l : List Tok} {w : World}
theorem next_yes (h : Str w g A c l k) (hk : k < l.length) (hr : ∀ t ∈ l, t.row.length ≤ 1000) (hln : l.length ≤ 1000) :
    Calls Tryz.prog 15 #[.pointer (some ⟨g, 0, Option.none⟩)] w fun e w' => TokIs w' (l[k]'hk) e ∧ Str w' g A c l (k + 1) ∧ Off w.heap.size g w w' :=
  (next_some g k c A l (l[k]'hk) w h.strm h.toks.isToks hk (List.getElem?_eq_getElem hk) (hr _ (List.getElem_mem hk)) hln).mono fun _ _ ⟨he, hb⟩ => ⟨he, h.set (k' := k + 1) hb, Off.of_set hb⟩
theorem next_end (h : Str w g A c l k) (hk : k = l.length) :
    Calls Tryz.prog 15 #[.pointer (some ⟨g, 0, Option.none⟩)] w fun e w' => e = .returned (.tuple #[tokZA, .bool false]) ∧ Str w' g A c l k ∧ Off w.heap.size g w w' := by
  subst hk
  exact (next_none g c l.length A w h.strm).mono fun _ _ ⟨he, hb⟩ => ⟨he, h.below hb, Off.of_below hb⟩
theorem peek_yes (h : Str w g A c l k) (hk : k < l.length) (hr : ∀ t ∈ l, t.row.length ≤ 1000) :
    Calls Tryz.prog 18 #[.pointer (some ⟨g, 0, Option.none⟩)] w fun e w' => TokIs w' (l[k]'hk) e ∧ Str w' g A c l k ∧ Off w.heap.size g w w' :=
  (peek_some g k c A l (l[k]'hk) w h.strm h.toks.isToks hk (List.getElem?_eq_getElem hk) (hr _ (List.getElem_mem hk))).mono fun _ _ ⟨he, hb⟩ => ⟨he, h.below hb, Off.of_below hb⟩
theorem peek_end (h : Str w g A c l k) (hk : k = l.length) :
    Calls Tryz.prog 18 #[.pointer (some ⟨g, 0, Option.none⟩)] w fun e w' => e = .returned (.tuple #[tokZA, .bool false]) ∧ Str w' g A c l k ∧ Off w.heap.size g w w' := by
  subst hk
  exact (peek_none g c l.length A w h.strm).mono fun _ _ ⟨he, hb⟩ => ⟨he, h.below hb, Off.of_below hb⟩
theorem take_yes (q : Int) (h : Str w g A c l k) (hk : k < l.length) (hr : ∀ t ∈ l, t.row.length ≤ 1000) (hln : l.length ≤ 1000) (hq : (l[k]'hk).kind = q) :
    Calls Tryz.prog 19 #[.pointer (some ⟨g, 0, Option.none⟩), .int .i64 q] w fun e w' => TokIs w' (l[k]'hk) e ∧ Str w' g A c l (k + 1) ∧ Off w.heap.size g w w' := by
  subst hq
  exact (take_some g k c A l (l[k]'hk) w h.strm h.toks.isToks hk (List.getElem?_eq_getElem hk) (hr _ (List.getElem_mem hk)) hln).mono fun _ _ ⟨he, hb⟩ => ⟨he, h.set (k' := k + 1) hb, Off.of_set hb⟩
theorem take_no (q : Int) (h : Str w g A c l k) (hr : ∀ t ∈ l, t.row.length ≤ 1000) (hq : k = l.length ∨ ∃ hk : k < l.length, (l[k]'hk).kind ≠ q) :
    Calls Tryz.prog 19 #[.pointer (some ⟨g, 0, Option.none⟩), .int .i64 q] w fun e w' => e = .returned (.tuple #[tokZA, .bool false]) ∧ Str w' g A c l k ∧ Off w.heap.size g w w' := by
  rcases hq with hk | ⟨hk, hq⟩
  · subst hk
    exact (take_none g c l.length q A w h.strm).mono fun _ _ ⟨he, hb⟩ => ⟨he, h.below hb, Off.of_below hb⟩
  · exact (take_other g k c q A l (l[k]'hk) w h.strm h.toks.isToks hk (List.getElem?_eq_getElem hk) (hr _ (List.getElem_mem hk)) hq).mono fun _ _ ⟨he, hb⟩ => ⟨he, h.below hb, Off.of_below hb⟩
end

end Go.Proofs.YtjgpjhaeoiddbaaGreatDoor

namespace Go.Proofs.YtjgpjhaeoiddbaaGreatDoor
open Go.RowKit Go.Lib

/-- How many tokens there are up to the first end, and that one. -/
def skipN : List Tok → Nat
  | [] => 0
  | t :: r => if t.kind = 6 then 1 else skipN r + 1
theorem skipN_le : ∀ l, skipN l ≤ l.length
  | [] => Nat.le_refl _
  | t :: r => by
    have ih := skipN_le r
    rw [skipN, List.length_cons]
    split <;> omega

set_option maxRecDepth 100000 in
set_option maxHeartbeats 4000000 in
theorem skip_any {g k c : Nat} {A : Option Addr} {l : List Tok} {w : World} (h : Str w g A c l k) (hk : k ≤ l.length) (hr : ∀ t ∈ l, t.row.length ≤ 1000) (hln : l.length ≤ 1000) :
    Calls Tryz.prog 23 #[.pointer (some ⟨g, 0, Option.none⟩)] w fun e w' => e = .returned (.int .i64 (skipN (l.drop k) : Nat)) ∧ Str w' g A c l (k + skipN (l.drop k)) ∧ Off w.heap.size g w w' := by
  obtain ⟨out, HO⟩ : ∃ out, Box (skipN (l.drop k) = out) := ⟨_, ⟨rfl⟩⟩
  rw [HO.out]
  have HY := Lib.hid (fun W q (h : Str W g A c l q) (hq : q < l.length) => next_yes h hq hr hln)
  have HE := Lib.hid (fun W q (h : Str W g A c l q) (hq : q = l.length) => next_end h hq)
  have HS := Lib.hid h
  clear hr
  by_cases hlt : k < l.length
  · clear h
    have hg := Cells.lt HS.out.strm
    go_enter Tryz.func23, Tryz.ntmps23
    go_wp2_with fail
    refine (HY.out _ k HS.out hlt).mono ?_
    rintro e w1 ⟨⟨A1, c1, rfl, _⟩, hs1, ho1⟩
    have hsz0 := ho1.size
    have HC := Lib.hid (Cells.new w1 38 #[.int .i64 (l[k]'hlt).kind, .string ⟨(l[k]'hlt).text.toArray⟩, .string ⟨(l[k]'hlt).num.toArray⟩, .string ⟨(l[k]'hlt).den.toArray⟩, .slice A1 (l[k]'hlt).row.length c1, .int .i64 (l[k]'hlt).line, .int .i64 (l[k]'hlt).col])
    have hba : Below w1.heap.size w1 (w1.alloc (.cells #[.int .i64 (l[k]'hlt).kind, .string ⟨(l[k]'hlt).text.toArray⟩, .string ⟨(l[k]'hlt).num.toArray⟩, .string ⟨(l[k]'hlt).den.toArray⟩, .slice A1 (l[k]'hlt).row.length c1, .int .i64 (l[k]'hlt).line, .int .i64 (l[k]'hlt).col] 38)) := (Below.refl _ _).alloc (Nat.le_refl _) _
    have HS1 := Lib.hid (hs1.below hba)
    have HO1 := Lib.hid (ho1.trans ((Off.of_below hba).mono ho1.size))
    have hsz := ho1.size
    clear hs1 ho1 hba HS
    go_wp2_with fail
    go_loopw [3, 4, 5] (fun nv tv iv wr => ∃ m b : Nat, nv = .int .i64 m ∧ tv = .pointer (some ⟨b, 0, Option.none⟩) ∧ b ≠ g ∧ Off w.heap.size g w wr ∧ ((iv = .bool true ∧ ∃ (hm : k + m < l.length) (A' : Option Addr) (c' : Nat), Str wr g A c l (k + m + 1) ∧ Cells wr b 38 (tokVals (l[k + m]'hm) (.slice A' (l[k + m]'hm).row.length c')) ∧ Box (out = m + skipN (l.drop (k + m)))) ∨ (iv = .bool false ∧ k + m = l.length ∧ Str wr g A c l (k + m) ∧ out = m))) (fun nv _ _ _ => l.length + 1 - (intOf nv).toNat)
    case atStart => exact ⟨0, w1.heap.size, rfl, rfl, by omega, HO1.out, .inl ⟨rfl, hlt, A1, c1, HS1.out, HC.out, ⟨by rw [Nat.zero_add]; exact HO.out.symm⟩⟩⟩
    case round =>
      obtain ⟨m, b, rfl, rfl, hbg, hoff, hrel⟩ := hrel
      rcases hrel with ⟨rfl, hm, A', c', hs, hc, HK⟩ | ⟨rfl, hm, hs, hk2⟩
      · have HD : Box (skipN (l.drop (k + m)) = if (l[k + m]'hm).kind = 6 then 1 else skipN (l.drop (k + m + 1)) + 1) := ⟨by rw [List.drop_eq_getElem_cons hm, skipN]⟩
        have HS2 := Lib.hid hs
        have HO2 := Lib.hid hoff
        have hgw : g < wr.heap.size := Cells.lt hs.strm
        obtain ⟨⟨p0, p1, p2, p3, p4, p5, p6⟩, f0, f1, f2, f3, f4, f5, f6⟩ := cells7 (show Cells wr b 38 [_, _, _, _, _, _, _] from hc)
        clear hs hc hoff HC HS1 HO1 f0 f1 f2 f3 f4 f5 f6
        by_cases h6 : (l[k + m]'hm).kind = 6
        · rw [if_pos h6] at HD
          generalize l[k + m]'hm = t at *
          obtain ⟨k0, x0, n0, d0, r0, l0, o0⟩ := t
          try dsimp only at *
          subst h6
          have HF : Box (out = m + 1) := ⟨by rw [HK.out, HD.out]⟩
          clear HK HD
          go_wp2_with fail
          go_ret
          refine ⟨?_, ?_, HO2.out⟩
          · rw [HF.out]; rfl
          · rw [HF.out]; exact HS2.out
        · rw [if_neg h6] at HD
          have HF : Box (out = (m + 1) + skipN (l.drop (k + (m + 1)))) := ⟨by rw [HK.out, HD.out, Nat.add_assoc k m 1]; omega⟩
          clear HK HD
          generalize l[k + m]'hm = t at *
          obtain ⟨k0, x0, n0, d0, r0, l0, o0⟩ := t
          try dsimp only at *
          have h6b : (k0 == 6) = false := by simpa using h6
          have hba : Below wr.heap.size wr (wr.alloc (.cells #[.int .i64 k0, .string ⟨x0.toArray⟩, .string ⟨n0.toArray⟩, .string ⟨d0.toArray⟩, .slice A' r0.length c', .int .i64 l0, .int .i64 o0] 38)) := (Below.refl _ _).alloc (Nat.le_refl _) _
          by_cases hnx : k + m + 1 < l.length
          · have HN := Lib.hid (HY.out (wr.alloc (.cells #[.int .i64 k0, .string ⟨x0.toArray⟩, .string ⟨n0.toArray⟩, .string ⟨d0.toArray⟩, .slice A' r0.length c', .int .i64 l0, .int .i64 o0] 38)) (k + m + 1) (HS2.out.below hba) hnx)
            obtain ⟨t2, hT2⟩ : ∃ t2, l[k + m + 1]'hnx = t2 := ⟨_, rfl⟩
            have HT2 : Box (l[k + m + 1]'hnx = t2) := ⟨hT2⟩
            rw [hT2] at HN
            clear hT2
            obtain ⟨k9, x9, n9, d9, r9, l9, o9⟩ := t2
            try dsimp only at HN
            go_wp2_with fail
            refine HN.out.mono ?_
            rintro e w2 ⟨⟨A2, c2, rfl, _⟩, hs2, ho2⟩
            have hsz2 := ho2.size
            rw [World.size_alloc] at hsz2 ho2
            have hc2 := ho2.cells (Cells.new wr 38 #[.int .i64 k0, .string ⟨x0.toArray⟩, .string ⟨n0.toArray⟩, .string ⟨d0.toArray⟩, .slice A' r0.length c', .int .i64 l0, .int .i64 o0]) (Nat.lt_succ_self _) (by omega)
            obtain ⟨⟨p0, p1, p2, p3, p4, p5, p6⟩, f0, f1, f2, f3, f4, f5, f6⟩ := cells7 (show Cells w2 wr.heap.size 38 [_, _, _, _, _, _, _] from hc2)
            have HCN := Lib.hid hc2
            have HSN := Lib.hid hs2
            have HON := Lib.hid ((Off.of_below hba).trans (ho2.mono (Nat.le_succ _)))
            clear hc2 hs2 ho2 hba HN
            go_wp2_with fail
            go_roundw
            case rel =>
              refine ⟨m + 1, wr.heap.size, by go_num, rfl, by omega, (HO2.out.trans (HON.out.mono (by have := HO2.out.size; omega))).store7 (by have := HO2.out.size; omega) _ _ _ _ _ _ _, ?_⟩
              refine .inl ⟨rfl, by omega, A2, c2, ?_, ?_, HF⟩
              · exact HS2.out.off ((HON.out).store7 (Nat.le_refl _) _ _ _ _ _ _ _) (Cells.far7 HSN.out.strm (by omega) _ _ _ _ _ _ _)
              · rw [show l[k + (m + 1)]'(by omega) = _ from HT2.out]
                exact HCN.out.store7 _ _ _ _ _ _ _
            case measure => simp [intOf]; omega
          · have HN := Lib.hid (HE.out (wr.alloc (.cells #[.int .i64 k0, .string ⟨x0.toArray⟩, .string ⟨n0.toArray⟩, .string ⟨d0.toArray⟩, .slice A' r0.length c', .int .i64 l0, .int .i64 o0] 38)) (k + m + 1) (HS2.out.below hba) (by omega))
            unfold tokZA at HN
            go_wp2_with fail
            refine HN.out.mono ?_
            rintro e w2 ⟨rfl, hs2, ho2⟩
            have hsz2 := ho2.size
            rw [World.size_alloc] at hsz2 ho2
            have hc2 := ho2.cells (Cells.new wr 38 #[.int .i64 k0, .string ⟨x0.toArray⟩, .string ⟨n0.toArray⟩, .string ⟨d0.toArray⟩, .slice A' r0.length c', .int .i64 l0, .int .i64 o0]) (Nat.lt_succ_self _) (by omega)
            obtain ⟨⟨p0, p1, p2, p3, p4, p5, p6⟩, f0, f1, f2, f3, f4, f5, f6⟩ := cells7 (show Cells w2 wr.heap.size 38 [_, _, _, _, _, _, _] from hc2)
            have HCN := Lib.hid hc2
            have HSN := Lib.hid hs2
            have HON := Lib.hid ((Off.of_below hba).trans (ho2.mono (Nat.le_succ _)))
            clear hc2 hs2 ho2 hba HN
            go_wp2_with fail
            go_roundw
            case rel =>
              refine ⟨m + 1, wr.heap.size, by go_num, rfl, by omega, (HO2.out.trans (HON.out.mono (by have := HO2.out.size; omega))).store7 (by have := HO2.out.size; omega) _ _ _ _ _ _ _, ?_⟩
              have hz : l.drop (k + (m + 1)) = [] := List.drop_eq_nil_of_le (by omega)
              refine .inr ⟨rfl, by omega, ?_, by rw [HF.out, hz]; rfl⟩
              exact HS2.out.off ((HON.out).store7 (Nat.le_refl _) _ _ _ _ _ _ _) (Cells.far7 HSN.out.strm (by omega) _ _ _ _ _ _ _)
            case measure => simp [intOf]; omega
      · go_wp2_with fail
        go_ret
        exact ⟨by rw [hk2]; rfl, by rw [hk2]; exact hs, hoff⟩
  · obtain rfl : k = l.length := by omega
    have HF : Box (out = 0) := ⟨by rw [← HO.out, List.drop_length]; rfl⟩
    have HN := Lib.hid (HE.out w l.length HS.out rfl)
    unfold tokZA at HN
    clear h hlt
    go_enter Tryz.func23, Tryz.ntmps23
    go_wp2_with fail
    refine HN.out.mono ?_
    rintro e w1 ⟨rfl, hs1, ho1⟩
    have hba : Below w1.heap.size w1 (w1.alloc (.cells #[.int .i64 0, .string ⟨#[]⟩, .string ⟨#[]⟩, .string ⟨#[]⟩, .slice Option.none 0 0, .int .i64 0, .int .i64 0] 38)) := (Below.refl _ _).alloc (Nat.le_refl _) _
    have HS1 := Lib.hid (hs1.below hba)
    have HO1 := Lib.hid (ho1.trans ((Off.of_below hba).mono ho1.size))
    clear hs1 ho1 hba HS
    go_wp2_with fail
    go_loopw [3, 5] (fun nv iv wr => nv = .int .i64 0 ∧ iv = .bool false ∧ Str wr g A c l l.length ∧ Off w.heap.size g w wr) (fun _ _ _ => 0)
    case atStart => exact ⟨rfl, rfl, HS1.out, HO1.out⟩
    case round =>
      obtain ⟨rfl, rfl, hs, ho⟩ := hrel
      go_wp2_with fail
      go_ret
      exact ⟨by rw [HF.out]; rfl, by rw [HF.out]; exact hs, ho⟩

end Go.Proofs.YtjgpjhaeoiddbaaGreatDoor
