import Derived.Test.YtaaeekahhhookaaGreatDoorGXAMCk
import Derived.Test.YtaaeekahhhookaaGreatDoorGRMCk
import Derived.Test.YtaaeekahhhookaaGreatDoorGTCMCk
namespace Go.Proofs.YtaaeekahhhookaaGreatDoor
open Go.RowKit Go.Lib
def faultV (f : Flt) : Value := .iface 85 (.agg #[.int .i64 f.line, .int .i64 f.col, .int .i64 f.err])
theorem fltAt_eq {l : List Tok} {k i : Nat} (hi : i < l.length) (hm : min k (l.length - 1) = i) (e : Int) : fltAt l k e = ⟨(l[i]'hi).line, (l[i]'hi).col, e⟩ := by
 unfold fltAt
 rw [hm, List.getElem?_eq_getElem hi]
theorem need_yes (r : Nat) (w : World) :
  Calls Tryz.prog 120 #[.pointer (some ⟨r, 0, Option.none⟩), .bool true] w fun e w' => e = .returned (.tuple #[]) ∧ w = w' := by
 go_enter Tryz.func120, Tryz.ntmps120
 go_wp2_with fail
 go_end0
 exact ⟨rfl, rfl⟩
set_option maxRecDepth 100000 in
set_option maxHeartbeats 2000000 in
theorem need_no {g k c r : Nat} {A : Option Addr} {l : List Tok} {w : World} {pv vv : Value} (h : Str w g A c l k) (hk : k ≤ l.length) (h0 : 0 < l.length) (hln : l.length ≤ 1000) (hr : Cells w r 162 [.pointer (some ⟨g, 0, Option.none⟩), pv, vv]) :
  Calls Tryz.prog 120 #[.pointer (some ⟨r, 0, Option.none⟩), .bool false] w fun e w' => e = .panicked [{ v := faultV (fltAt l k 15), recovered := false }] ∧ Str w' g A c l k ∧ Below w.heap.size w w' := by
 have hi : min k (l.length - 1) < l.length := by omega
 have HA := Lib.hid (at_place h hk hln hi rfl)
 rw [fltAt_eq hi rfl]
 obtain ⟨r0, _, _⟩ := cel3 hr
 generalize l[min k (l.length - 1)]'hi = t at *
 obtain ⟨k0, x0, d0, q0, ro, l0, o0⟩ := t
 dsimp only at HA ⊢
 clear h hk h0 hln hr hi
 go_enter Tryz.func120, Tryz.ntmps120
 go_wp2_with fail
 refine HA.out.mono ?_
 rintro e w1 ⟨rfl, hs1, hb1⟩
 go_wp2_with fail
 exact ⟨rfl, rfl, hs1, hb1⟩
def TokV (w : World) (t : Tok) (e : Ending) : Prop := ∃ A' c', e = .returned (.agg #[.int .i64 t.kind, .string ⟨t.text.toArray⟩, .string ⟨t.num.toArray⟩, .string ⟨t.den.toArray⟩, .slice A' t.row.length c', .int .i64 t.line, .int .i64 t.col]) ∧ TRow w (.slice A' t.row.length c') t.row
set_option maxRecDepth 100000 in
set_option maxHeartbeats 4000000 in
theorem rdTake_yes {g k c r : Nat} {A : Option Addr} {l : List Tok} {w : World} {pv vv : Value} (q : Int) (h : Str w g A c l k) (hk : k < l.length) (hr : ∀ t ∈ l, t.row.length ≤ 1000) (hln : l.length ≤ 1000) (hq : (l[k]'hk).kind = q) (hc : Cells w r 162 [.pointer (some ⟨g, 0, Option.none⟩), pv, vv]) :
  Calls Tryz.prog 124 #[.pointer (some ⟨r, 0, Option.none⟩), .int .i64 q] w fun e w' => TokV w' (l[k]'hk) e ∧ Str w' g A c l (k + 1) ∧ Off w.heap.size g w w' := by
 have hba : Below w.heap.size w (w.alloc (.cells #[.int .i64 0, .string ⟨#[]⟩, .string ⟨#[]⟩, .string ⟨#[]⟩, .slice Option.none 0 0, .int .i64 0, .int .i64 0] 92)) := (Below.refl _ _).alloc (Nat.le_refl _) _
 have HN := Lib.hid (Cells.new w 92 #[.int .i64 0, .string ⟨#[]⟩, .string ⟨#[]⟩, .string ⟨#[]⟩, .slice Option.none 0 0, .int .i64 0, .int .i64 0])
 have HT := Lib.hid (take_yes q (h.below hba) hk hr hln hq)
 have HND := Lib.hid (need_yes r)
 obtain ⟨r0, _, _⟩ := cel3 (hc.below hba hc.lt)
 have hgw : g < w.heap.size := Cells.lt h.strm
 have HBA := Lib.hid hba
 have HS0 := Lib.hid h
 generalize l[k]'hk = t at *
 obtain ⟨k0, x0, n0, d0, ro, l0, o0⟩ := t
 clear h hk hr hln hq hc hba
 go_enter Tryz.func124, Tryz.ntmps124
 go_wp2_with fail
 refine HT.out.mono ?_
 rintro e w1 ⟨⟨A1, c1, rfl, ht⟩, hs1, ho1⟩
 have HO1 := Lib.hid ((Off.of_below HBA.out).trans (ho1.mono HBA.out.size))
 have HS1 := Lib.hid hs1
 have HN1 := Lib.hid (ho1.cells HN.out HN.out.lt (by omega))
 have HT1 := Lib.hid ht
 dsimp only at *
 clear ht hs1 ho1 HT
 obtain ⟨W, hW⟩ : ∃ W, W = w1.alloc (.cells #[.int .i64 k0, .string ⟨x0.toArray⟩, .string ⟨n0.toArray⟩, .string ⟨d0.toArray⟩, .slice A1 ro.length c1, .int .i64 l0, .int .i64 o0] 92) := ⟨_, rfl⟩
 have hb2 : Below w1.heap.size w1 W := by rw [hW]; exact (Below.refl _ _).alloc (Nat.le_refl _) _
 have HX := Cells.new w1 92 #[.int .i64 k0, .string ⟨x0.toArray⟩, .string ⟨n0.toArray⟩, .string ⟨d0.toArray⟩, .slice A1 ro.length c1, .int .i64 l0, .int .i64 o0]
 rw [← hW] at HX
 obtain ⟨⟨x_0, x_1, x_2, x_3, x_4, x_5, x_6⟩, _⟩ := cells7 HX
 have hN := HN1.out.below hb2 HN1.out.lt
 obtain ⟨⟨z0, z1, z2, z3, z4, z5, z6⟩, y0, y1, y2, y3, y4, y5, y6⟩ := cells7 hN
 have HN2 := Lib.hid hN
 have HT2 := Lib.hid (HT1.out.below hb2)
 have HO2 := Lib.hid (HO1.out.trans (Off.of_below (hb2.mono HO1.out.size)))
 have HS2 := Lib.hid (HS1.out.below hb2).strm
 have hne2 : g ≠ w.heap.size := by omega
 clear hN hb2 HX HN1 HT1 HO1 HS1
 go_wp2_with fail
 rw [← hW]
 clear hW
 refine (HND.out _).mono ?_
 rintro e w2 ⟨rfl, rfl⟩
 go_wp2_with fail
 refine bodyPost_ret (v := .agg #[.int .i64 k0, .string ⟨x0.toArray⟩, .string ⟨n0.toArray⟩, .string ⟨d0.toArray⟩, .slice A1 ro.length c1, .int .i64 l0, .int .i64 o0]) (by simp (maxDischargeDepth := 10) [results, Tryz.results124, go_sem, z0, z1, z2, z3, z4, z5, z6]) rfl ⟨⟨A1, c1, rfl, ?_⟩, ?_, ?_⟩
 ·have hT := HT2.out
  have hN := HN2.out
  exact ((((((hT.set hN (by decide) _).set (hN.set 0 _) (by decide) _).set ((hN.set 0 _).set 1 _) (by decide) _).set (((hN.set 0 _).set 1 _).set 2 _) (by decide) _).set ((((hN.set 0 _).set 1 _).set 2 _).set 3 _) (by decide) _).set (((((hN.set 0 _).set 1 _).set 2 _).set 3 _).set 4 _) (by decide) _).set ((((((hN.set 0 _).set 1 _).set 2 _).set 3 _).set 4 _).set 5 _) (by decide) _
 ·exact HS0.out.off (HO2.out.store7 (Nat.le_refl _) _ _ _ _ _ _ _) (Cells.far7 HS2.out hne2 _ _ _ _ _ _ _)
 ·exact HO2.out.store7 (Nat.le_refl _) _ _ _ _ _ _ _
set_option maxRecDepth 100000 in
set_option maxHeartbeats 4000000 in
theorem rdTake_no {g k c r : Nat} {A : Option Addr} {l : List Tok} {w : World} {pv vv : Value} (q : Int) (h : Str w g A c l k) (hk : k ≤ l.length) (h0 : 0 < l.length) (hr : ∀ t ∈ l, t.row.length ≤ 1000) (hln : l.length ≤ 1000) (hq : kindAt l k q = false) (hc : Cells w r 162 [.pointer (some ⟨g, 0, Option.none⟩), pv, vv]) (hne : r ≠ g) :
  Calls Tryz.prog 124 #[.pointer (some ⟨r, 0, Option.none⟩), .int .i64 q] w fun e w' => e = .panicked [{ v := faultV (fltAt l k 15), recovered := false }] ∧ Str w' g A c l k ∧ Off w.heap.size g w w' := by
 have hba : Below w.heap.size w (w.alloc (.cells #[.int .i64 0, .string ⟨#[]⟩, .string ⟨#[]⟩, .string ⟨#[]⟩, .slice Option.none 0 0, .int .i64 0, .int .i64 0] 92)) := (Below.refl _ _).alloc (Nat.le_refl _) _
 have hq2 : k = l.length ∨ ∃ hk : k < l.length, (l[k]'hk).kind ≠ q := by
  by_cases hkl : k < l.length
  ·refine .inr ⟨hkl, ?_⟩
   unfold kindAt at hq
   rw [List.getElem?_eq_getElem hkl] at hq
   simpa using hq
  ·exact .inl (by omega)
 have HT := Lib.hid (take_no q (h.below hba) hr hq2)
 have HND := Lib.hid (fun W (h : Str W g A c l k) hr => need_no (r := r) (pv := pv) (vv := vv) h hk h0 hln hr)
 obtain ⟨r0, _, _⟩ := cel3 (hc.below hba hc.lt)
 have HC := Lib.hid (hc.below hba hc.lt)
 have hrw : r < w.heap.size := hc.lt
 have HBA := Lib.hid hba
 have HS0 := Lib.hid h
 generalize faultV (fltAt l k 15) = fv at *
 clear h hk h0 hr hln hq hq2 hc hba
 go_enter Tryz.func124, Tryz.ntmps124
 go_wp2_with fail
 refine HT.out.mono ?_
 rintro e w1 ⟨rfl, hs1, ho1⟩
 unfold tokZA
 have HO1 := Lib.hid ((Off.of_below HBA.out).trans (ho1.mono HBA.out.size))
 have HC1 := Lib.hid (ho1.cells HC.out (by rw [World.size_alloc]; omega) hne)
 have hw1 := HO1.out.size
 obtain ⟨W, hW⟩ : ∃ W, W = w1.alloc (.cells #[.int .i64 0, .string ⟨#[]⟩, .string ⟨#[]⟩, .string ⟨#[]⟩, .slice Option.none 0 0, .int .i64 0, .int .i64 0] 92) := ⟨_, rfl⟩
 have hb2 : Below w1.heap.size w1 W := by rw [hW]; exact (Below.refl _ _).alloc (Nat.le_refl _) _
 have HS2 := Lib.hid (hs1.below hb2)
 have HC2 := Lib.hid (HC1.out.below hb2 HC1.out.lt)
 have HO2 := Lib.hid (HO1.out.trans (Off.of_below (hb2.mono HO1.out.size)))
 clear hs1 ho1 hb2 HC1 HO1 HT
 go_wp2_with fail
 rw [← hW]
 clear hW
 refine (HND.out _ HS2.out HC2.out).mono ?_
 rintro e w3 ⟨rfl, hs3, hb3⟩
 go_wp2_with fail
 exact ⟨rfl, rfl, hs3, HO2.out.trans (Off.of_below (hb3.mono HO2.out.size))⟩
theorem rdCheck_ok (a b : Int) (w : World) :
  Calls Tryz.prog 123 #[.agg #[.int .i64 a, .int .i64 b], .int .i64 0] w fun e w' => e = .returned (.tuple #[]) ∧ Below w.heap.size w w' := by
 go_enter Tryz.func123, Tryz.ntmps123
 go_wp2_with fail
 go_end0
 exact ⟨rfl, (Below.refl _ _).alloc (Nat.le_refl _) _⟩
set_option maxRecDepth 100000 in
theorem rdCheck_bad (a b x : Int) (w : World) (hx : x ≠ 0) :
  Calls Tryz.prog 123 #[.agg #[.int .i64 a, .int .i64 b], .int .i64 x] w fun e w' => e = .panicked [{ v := faultV ⟨a, b, x⟩, recovered := false }] ∧ Below w.heap.size w w' := by
 have heb : (x != 0) = true := by rw [bne_iff_ne]; exact hx
 go_enter Tryz.func123, Tryz.ntmps123
 go_wp2_with fail
 exact ⟨rfl, rfl, (Below.refl _ _).alloc (Nat.le_refl _) _⟩
theorem textAt_yes {l : List Tok} {k : Nat} {q : Int} {s : List UInt8} (h : textAt l k q s = true) : ∃ hk : k < l.length, (l[k]'hk).kind = q ∧ (l[k]'hk).text = s := by
 unfold textAt at h
 by_cases hk : k < l.length
 ·rw [List.getElem?_eq_getElem hk] at h
  exact ⟨hk, by simpa using h⟩
 ·rw [List.getElem?_eq_none (by omega)] at h
  cases h
theorem textAt_no {l : List Tok} {k : Nat} {q : Int} {s : List UInt8} (h : textAt l k q s = false) (hk : k < l.length) : (l[k]'hk).kind ≠ q ∨ (l[k]'hk).kind = q ∧ (l[k]'hk).text ≠ s := by
 unfold textAt at h
 rw [List.getElem?_eq_getElem hk] at h
 by_cases hq : (l[k]'hk).kind = q
 ·refine .inr ⟨hq, fun hs => ?_⟩
  simp [hq, hs] at h
 ·exact .inl hq
set_option maxRecDepth 100000 in
set_option maxHeartbeats 4000000 in
theorem rdWord_yes {g k c r : Nat} {A : Option Addr} {l : List Tok} {w : World} {pv vv : Value} (s : List UInt8) (h : Str w g A c l k) (hr : ∀ t ∈ l, t.row.length ≤ 1000) (hln : l.length ≤ 1000) (ht : textAt l k 1 s = true) (hc : Cells w r 162 [.pointer (some ⟨g, 0, Option.none⟩), pv, vv]) (hne : r ≠ g) :
  Calls Tryz.prog 121 #[.pointer (some ⟨r, 0, Option.none⟩), .string ⟨s.toArray⟩] w fun e w' => e = .returned (.bool true) ∧ Str w' g A c l (k + 1) ∧ Off w.heap.size g w w' := by
 obtain ⟨hk, hq, hs⟩ := textAt_yes ht
 have HP := Lib.hid (peek_yes h hk hr)
 have HAC := Lib.hid (fun W (h : Str W g A c l k) => accept_ok s h hk hr hln (.inl hq) hs)
 obtain ⟨r0, _, _⟩ := cel3 hc
 have HC := Lib.hid hc
 have hrw : r < w.heap.size := hc.lt
 generalize l[k]'hk = t at *
 obtain ⟨k0, x0, n0, d0, ro, l0, o0⟩ := t
 dsimp only at *
 subst hq
 clear h hr hln ht hc hs
 go_enter Tryz.func121, Tryz.ntmps121
 go_wp2_with fail
 refine HP.out.mono ?_
 rintro e w1 ⟨⟨A1, c1, rfl, _⟩, hs1, ho1⟩
 dsimp only
 have HC1 := Lib.hid (ho1.cells HC.out hrw hne)
 have hw1 := ho1.size
 obtain ⟨W, hW⟩ : ∃ W, W = w1.alloc (.cells #[.int .i64 1, .string ⟨x0.toArray⟩, .string ⟨n0.toArray⟩, .string ⟨d0.toArray⟩, .slice A1 ro.length c1, .int .i64 l0, .int .i64 o0] 92) := ⟨_, rfl⟩
 have hb2 : Below w1.heap.size w1 W := by rw [hW]; exact (Below.refl _ _).alloc (Nat.le_refl _) _
 have HX := Cells.new w1 92 #[.int .i64 1, .string ⟨x0.toArray⟩, .string ⟨n0.toArray⟩, .string ⟨d0.toArray⟩, .slice A1 ro.length c1, .int .i64 l0, .int .i64 o0]
 rw [← hW] at HX
 obtain ⟨⟨x_0, _⟩, _⟩ := cells7 HX
 have HS2 := Lib.hid (hs1.below hb2)
 obtain ⟨q0, _, _⟩ := cel3 (HC1.out.below hb2 HC1.out.lt)
 have HO2 := Lib.hid (ho1.trans (Off.of_below (hb2.mono hw1)))
 clear hs1 ho1 hb2 HC1 HX HP
 go_upto_region 2 with (fail)
 rw [← hW]
 clear hW
 go_wp2_with fail
 refine (HAC.out _ HS2.out).mono ?_
 rintro e w3 ⟨rfl, hs3, ho3⟩
 have HO3 := Lib.hid (HO2.out.trans (ho3.mono HO2.out.size))
 go_wp2_with fail
 go_ret
 exact ⟨rfl, hs3, HO3.out⟩
set_option maxRecDepth 100000 in
set_option maxHeartbeats 4000000 in
theorem rdWord_no {g k c r : Nat} {A : Option Addr} {l : List Tok} {w : World} {pv vv : Value} (s : List UInt8) (h : Str w g A c l k) (hkl : k ≤ l.length) (hr : ∀ t ∈ l, t.row.length ≤ 1000) (ht : textAt l k 1 s = false) (hc : Cells w r 162 [.pointer (some ⟨g, 0, Option.none⟩), pv, vv]) (hne : r ≠ g) :
  Calls Tryz.prog 121 #[.pointer (some ⟨r, 0, Option.none⟩), .string ⟨s.toArray⟩] w fun e w' => e = .returned (.bool false) ∧ Str w' g A c l k ∧ Off w.heap.size g w w' := by
 obtain ⟨r0, _, _⟩ := cel3 hc
 have HC := Lib.hid hc
 have hrw : r < w.heap.size := hc.lt
 by_cases hk : k < l.length
 ·have hto := textAt_no ht hk
  have HP := Lib.hid (peek_yes h hk hr)
  have HAC := Lib.hid (fun (hq : (l[k]'hk).text ≠ s) W (h : Str W g A c l k) => accept_no s h hr (.inr ⟨hk, .inr hq⟩))
  generalize l[k]'hk = t at *
  obtain ⟨k0, x0, n0, d0, ro, l0, o0⟩ := t
  dsimp only at *
  clear h hr ht hc
  rcases hto with hto | ⟨hq, hto⟩
  ·have heb : (k0 == 1) = false := by simpa using hto
   clear HAC hto
   go_enter Tryz.func121, Tryz.ntmps121
   go_wp2_with fail
   refine HP.out.mono ?_
   rintro e w1 ⟨⟨A1, c1, rfl, _⟩, hs1, ho1⟩
   dsimp only
   have hw1 := ho1.size
   obtain ⟨W, hW⟩ : ∃ W, W = w1.alloc (.cells #[.int .i64 k0, .string ⟨x0.toArray⟩, .string ⟨n0.toArray⟩, .string ⟨d0.toArray⟩, .slice A1 ro.length c1, .int .i64 l0, .int .i64 o0] 92) := ⟨_, rfl⟩
   have hb2 : Below w1.heap.size w1 W := by rw [hW]; exact (Below.refl _ _).alloc (Nat.le_refl _) _
   have HX := Cells.new w1 92 #[.int .i64 k0, .string ⟨x0.toArray⟩, .string ⟨n0.toArray⟩, .string ⟨d0.toArray⟩, .slice A1 ro.length c1, .int .i64 l0, .int .i64 o0]
   rw [← hW] at HX
   obtain ⟨⟨x_0, _⟩, _⟩ := cells7 HX
   have HS2 := Lib.hid (hs1.below hb2)
   have HO2 := Lib.hid (ho1.trans (Off.of_below (hb2.mono hw1)))
   clear hs1 ho1 hb2 HX HP
   go_upto_region 2 with (fail)
   rw [← hW]
   clear hW
   go_wp2_with fail
   go_ret
   exact ⟨rfl, HS2.out, HO2.out⟩
  ·subst hq
   have HA2 := Lib.hid (HAC.out hto)
   clear HAC hto
   go_enter Tryz.func121, Tryz.ntmps121
   go_wp2_with fail
   refine HP.out.mono ?_
   rintro e w1 ⟨⟨A1, c1, rfl, _⟩, hs1, ho1⟩
   dsimp only
   have HC1 := Lib.hid (ho1.cells HC.out hrw hne)
   have hw1 := ho1.size
   obtain ⟨W, hW⟩ : ∃ W, W = w1.alloc (.cells #[.int .i64 1, .string ⟨x0.toArray⟩, .string ⟨n0.toArray⟩, .string ⟨d0.toArray⟩, .slice A1 ro.length c1, .int .i64 l0, .int .i64 o0] 92) := ⟨_, rfl⟩
   have hb2 : Below w1.heap.size w1 W := by rw [hW]; exact (Below.refl _ _).alloc (Nat.le_refl _) _
   have HX := Cells.new w1 92 #[.int .i64 1, .string ⟨x0.toArray⟩, .string ⟨n0.toArray⟩, .string ⟨d0.toArray⟩, .slice A1 ro.length c1, .int .i64 l0, .int .i64 o0]
   rw [← hW] at HX
   obtain ⟨⟨x_0, _⟩, _⟩ := cells7 HX
   have HS2 := Lib.hid (hs1.below hb2)
   obtain ⟨q0, _, _⟩ := cel3 (HC1.out.below hb2 HC1.out.lt)
   have HO2 := Lib.hid (ho1.trans (Off.of_below (hb2.mono hw1)))
   clear hs1 ho1 hb2 HC1 HX HP
   go_upto_region 2 with (fail)
   rw [← hW]
   clear hW
   go_wp2_with fail
   refine (HA2.out _ HS2.out).mono ?_
   rintro e w3 ⟨rfl, hs3, ho3⟩
   have HO3 := Lib.hid (HO2.out.trans (ho3.mono HO2.out.size))
   go_wp2_with fail
   go_ret
   exact ⟨rfl, hs3, HO3.out⟩
 ·have HP := Lib.hid (peek_end h (by omega))
  clear h hr ht hc hkl hk
  go_enter Tryz.func121, Tryz.ntmps121
  go_wp2_with fail
  refine HP.out.mono ?_
  rintro e w1 ⟨rfl, hs1, ho1⟩
  unfold tokZA
  have hw1 := ho1.size
  obtain ⟨W, hW⟩ : ∃ W, W = w1.alloc (.cells #[.int .i64 0, .string ⟨#[]⟩, .string ⟨#[]⟩, .string ⟨#[]⟩, .slice Option.none 0 0, .int .i64 0, .int .i64 0] 92) := ⟨_, rfl⟩
  have hb2 : Below w1.heap.size w1 W := by rw [hW]; exact (Below.refl _ _).alloc (Nat.le_refl _) _
  have HS2 := Lib.hid (hs1.below hb2)
  have HO2 := Lib.hid (ho1.trans (Off.of_below (hb2.mono hw1)))
  clear hs1 ho1 hb2 HP
  go_upto_region 2 with (fail)
  rw [← hW]
  clear hW
  go_wp2_with fail
  go_ret
  exact ⟨rfl, HS2.out, HO2.out⟩
def NumTok (t : Tok) : Prop := ∃ n d : Int, t.num = itoa n ∧ t.den = itoa d ∧ 0 < d ∧ Nat.gcd n.natAbs d.natAbs = 1 ∧ (itoa n).length ≤ 60 ∧ (itoa d).length ≤ 60
def valZ (l : List UInt8) : Int := match l with
 | 45 :: r => -(dval 0 r : Nat)
 | l => (dval 0 l : Nat)
theorem valZ_itoa (z : Int) : valZ (itoa z) = z := by
 rcases itoa_cases z with ⟨h, e⟩ | ⟨h, e⟩
 ·rw [e]
  show -((dval 0 (decDigits z.natAbs) : Nat) : Int) = z
  rw [dval_dec]
  omega
 ·have hc := canon_dec z.natAbs
  rw [e]
  unfold valZ
  split
  ·rename_i r hr
   exfalso
   have := dec_dig z.natAbs 45 (by rw [hr]; simp)
   revert this
   decide
  ·rw [dval_dec]
   omega
def smP (num den : List UInt8) : Option Int :=
 if den = [49] ∧ num.length ≤ (if num.head? = some 45 then 19 else 18) then some (valZ num) else none
theorem smP_itoa (n d : Int) : smP (itoa n) (itoa d) = if d = 1 ∧ (decDigits n.natAbs).length ≤ 18 then some n else none := by
 have h11 : itoa 1 = [49] := by kernel_rfl
 have h1 : itoa d = [49] ↔ d = 1 := ⟨fun h => by rw [← valZ_itoa d, h, ← h11, valZ_itoa], fun h => by rw [h, h11]⟩
 have h2 : (itoa n).length ≤ (if (itoa n).head? = some 45 then 19 else 18) ↔ (decDigits n.natAbs).length ≤ 18 := by
  rcases itoa_cases n with ⟨h, e⟩ | ⟨h, e⟩
  ·rw [e]
   simp
  ·rw [e, if_neg]
   intro hh
   have := dec_dig n.natAbs 45 (List.mem_of_mem_head? hh)
   revert this
   decide
 unfold smP
 by_cases h : d = 1 ∧ (decDigits n.natAbs).length ≤ 18
 ·rw [if_pos h, if_pos ⟨h1.2 h.1, h2.2 h.2⟩, valZ_itoa]
 ·rw [if_neg h, if_neg (fun hh => h ⟨h1.1 hh.1, h2.1 hh.2⟩)]
set_option maxHeartbeats 2000000 in
theorem fSmall_yes (n d : Int) (w : World) (hn : (decDigits n.natAbs).length ≤ 18) (hd : (itoa d).length ≤ 18) :
  Calls Tryz.prog 30 #[.agg #[.string ⟨(itoa n).toArray⟩, .string ⟨(itoa d).toArray⟩]] w fun e w' => e = .returned (.tuple #[.int .i64 n, .int .i64 d, .bool true]) ∧ Below w.heap.size w w' := by
 have hln := itoa_len n
 have hn2 := itoa_len_lt (z := n) (k := 19) (by omega)
 have hd2 := itoa_len_lt hd
 have hn3 : n.natAbs < 10 ^ 18 := by
  have := itoa_len_lt (z := (n.natAbs : Int)) (k := 18) (by rw [itoa_nat]; exact hn)
  simpa using this
 have HA := Lib.hid (fun W => whAbs_any n W (by omega))
 have HN := Lib.hid (fun W => whSmall_any n W (by omega) (by omega))
 have HD := Lib.hid (fun W => whSmall_any d W (by omega) (by omega))
 have hba : Below w.heap.size w (w.alloc (.cells #[.string ⟨(itoa n).toArray⟩, .string ⟨(itoa d).toArray⟩] 51)) := (Below.refl _ _).alloc (Nat.le_refl _) _
 have HBA := Lib.hid hba
 have HC := Lib.hid (Cells.new w 51 #[.string ⟨(itoa n).toArray⟩, .string ⟨(itoa d).toArray⟩])
 clear hn2 hd2 hn3 hba hln
 generalize itoa n = nt at *
 generalize itoa d = dt at *
 generalize decDigits n.natAbs = nd at *
 go_enter Tryz.func30, Tryz.ntmps30
 go_wp2_with fail
 refine (HA.out _).mono ?_
 rintro e w1 ⟨rfl, hb1⟩
 have HB1 := Lib.hid (HBA.out.trans (hb1.mono HBA.out.size))
 have hc1 := HC.out.below hb1 HC.out.lt
 obtain ⟨z0, z1⟩ := cel2 hc1
 have HC1 := Lib.hid hc1
 clear hb1 hc1 HC HBA
 have h1 : ¬ (18 < (nd.length : Int)) := by omega
 have h2 : ¬ (18 < (dt.length : Int)) := by omega
 go_wp2_with fail
 refine (HN.out _).mono ?_
 rintro e w2 ⟨rfl, hb2⟩
 have HB2 := Lib.hid (HB1.out.trans (hb2.mono HB1.out.size))
 have hc2 := HC1.out.below hb2 HC1.out.lt
 obtain ⟨y0, y1⟩ := cel2 hc2
 clear hb2 hc2 HC1 HB1 z0 z1
 go_wp2_with fail
 refine (HD.out _).mono ?_
 rintro e w3 ⟨rfl, hb3⟩
 have HB3 := Lib.hid (HB2.out.trans (hb3.mono HB2.out.size))
 clear hb3
 go_wp2_with fail
 go_ret3
 exact ⟨rfl, HB3.out⟩
set_option maxHeartbeats 2000000 in
theorem fSmall_no (n d : Int) (w : World) (hn : (itoa n).length ≤ 100000) (hd : (itoa d).length ≤ 100000) (h : 18 < (decDigits n.natAbs).length ∨ 18 < (itoa d).length) :
  Calls Tryz.prog 30 #[.agg #[.string ⟨(itoa n).toArray⟩, .string ⟨(itoa d).toArray⟩]] w fun e w' => e = .returned (.tuple #[.int .i64 0, .int .i64 0, .bool false]) ∧ Below w.heap.size w w' := by
 have hln := natAbs_len n
 have HA := Lib.hid (fun W => whAbs_any n W hn)
 have hba : Below w.heap.size w (w.alloc (.cells #[.string ⟨(itoa n).toArray⟩, .string ⟨(itoa d).toArray⟩] 51)) := (Below.refl _ _).alloc (Nat.le_refl _) _
 have HBA := Lib.hid hba
 have HC := Lib.hid (Cells.new w 51 #[.string ⟨(itoa n).toArray⟩, .string ⟨(itoa d).toArray⟩])
 have hnd : (decDigits n.natAbs).length ≤ 100000 := by omega
 have HH : Box (18 < (decDigits n.natAbs).length ∨ 18 < (itoa d).length) := ⟨h⟩
 clear hba hln h
 generalize itoa n = nt at *
 generalize itoa d = dt at *
 generalize decDigits n.natAbs = nd at *
 go_enter Tryz.func30, Tryz.ntmps30
 go_wp2_with fail
 refine (HA.out _).mono ?_
 rintro e w1 ⟨rfl, hb1⟩
 have HB1 := Lib.hid (HBA.out.trans (hb1.mono HBA.out.size))
 have hc1 := HC.out.below hb1 HC.out.lt
 obtain ⟨z0, z1⟩ := cel2 hc1
 clear hb1 hc1 HC HBA
 by_cases h1 : 18 < nd.length
 ·have h1' : 18 < (nd.length : Int) := by omega
  go_wp2_with fail
  go_ret3
  exact ⟨rfl, HB1.out⟩
 ·have h1' : ¬ (18 < (nd.length : Int)) := by omega
  have h2' : 18 < (dt.length : Int) := by have := HH.out; omega
  go_wp2_with fail
  go_ret3
  exact ⟨rfl, HB1.out⟩
structure Off2 (B g r : Nat) (w w' : World) : Prop where
 os : w'.os = w.os
 tape : w'.tape = w.tape
 output : w'.output = w.output
 size : w.heap.size ≤ w'.heap.size
 block : ∀ k, k < B → k ≠ g → k ≠ r → w'.heap[k]? = w.heap[k]?
section
variable {B g r : Nat} {w w' w'' : World}
theorem Off2.refl (B g r : Nat) (w : World) : Off2 B g r w w := ⟨rfl, rfl, rfl, Nat.le_refl _, fun _ _ _ _ => rfl⟩
theorem Off2.of_off (h : Off B g w w') : Off2 B g r w w' := ⟨h.os, h.tape, h.output, h.size, fun k hk hn _ => h.block k hk hn⟩
theorem Off2.of_below (h : Below B w w') : Off2 B g r w w' := ⟨h.os, h.tape, h.output, h.size, fun k hk _ _ => h.block k hk⟩
theorem Off2.trans (h : Off2 B g r w w') (h2 : Off2 B g r w' w'') : Off2 B g r w w'' :=
 ⟨h2.os.trans h.os, h2.tape.trans h.tape, h2.output.trans h.output, Nat.le_trans h.size h2.size, fun k hk hn hm => (h2.block k hk hn hm).trans (h.block k hk hn hm)⟩
theorem Off2.mono {B' : Nat} (h : Off2 B g r w w') (hB : B' ≤ B) : Off2 B' g r w w' := ⟨h.os, h.tape, h.output, h.size, fun k hk hn hm => h.block k (by omega) hn hm⟩
theorem Off2.setCell (h : Off2 B g r w w') {p : Addr} (hp : B ≤ p.block ∨ p.block = r) (u : Value) : Off2 B g r w (w'.setCell p u) :=
 ⟨h.os, h.tape, h.output, by have := h.size; simpa [World.setCell] using this, fun k hk hn hm => (Below.heap_setCell _ _ _ _ (by show k ≠ p.block; omega)).trans (h.block k hk hn hm)⟩
theorem Off2.cells {b : Nat} {T : TypeId} {xs : List Value} (h : Off2 B g r w w') (hc : Cells w b T xs) (hl : b < B) (hn : b ≠ g) (hm : b ≠ r) : Cells w' b T xs := (h.block b hl hn hm).trans hc
theorem Off2.below (h : Off2 B g r w w') (hB : B ≤ g) (hC : B ≤ r) : Below B w w' := ⟨h.os, h.tape, h.output, h.size, fun k hk => h.block k hk (by omega) (by omega)⟩
theorem own_keep {base size n : Nat} {e : TypeId} {v : Value} {xs : List Value} (h : w.ownsRow base e size v n xs) (hb : ∀ b, v.ownBlock = some b → w'.heap[b]? = w.heap[b]?) : w'.ownsRow base e size v n xs := by
 refine ⟨h.1, ?_⟩
 rcases h.2 with h0 | ⟨b, cap, cur, rfl, h1, h2, h3⟩
 ·exact .inl h0
 ·exact .inr ⟨b, cap, cur, rfl, h1, (hb b rfl).trans h2, h3⟩
theorem own_off {base size n : Nat} {e : TypeId} {v : Value} {xs : List Value} (h : w.ownsRow base e size v n xs) (ho : Off w.heap.size g w w') (hg : g < base) : w'.ownsRow base e size v n xs :=
 own_keep h fun b hb => ho.block b (h.lt b hb).2 (by have := (h.lt b hb).1; omega)
end
def plc (g : Nat) (w : World) : Nat := match w.cell? ⟨g, 1, Option.none⟩ with
 | some (.int _ p) => p.toNat
 | _ => 0
theorem plc_eq {w : World} {g c k : Nat} {A : Option Addr} {l : List Tok} (h : Str w g A c l k) : plc g w = k := by
 unfold plc
 rw [(Strm.cells h.strm).2]
 simp
theorem prRun_step {sm : List UInt8 → List UInt8 → Option Int} {l : List Tok} {f k : Nat} {ps : List Int} : prRun sm l (f + 1) k ps = if kindAt l k 2 then (match sm (tokAt l k).num (tokAt l k).den with | some n => prRun sm l f (k + 1) (ps ++ [n]) | none => .error (fltAt l k 27)) else .ok (k, ps) := rfl
theorem kindAt_yes {l : List Tok} {k : Nat} {q : Int} (h : kindAt l k q = true) : ∃ hk : k < l.length, (l[k]'hk).kind = q := by
 unfold kindAt at h
 by_cases hk : k < l.length
 ·rw [List.getElem?_eq_getElem hk] at h
  exact ⟨hk, by simpa using h⟩
 ·rw [List.getElem?_eq_none (by omega)] at h
  cases h
theorem kindAt_no {l : List Tok} {k : Nat} {q : Int} (h : kindAt l k q = false) (hkl : k ≤ l.length) : k = l.length ∨ ∃ hk : k < l.length, (l[k]'hk).kind ≠ q := by
 by_cases hk : k < l.length
 ·refine .inr ⟨hk, ?_⟩
  unfold kindAt at h
  rw [List.getElem?_eq_getElem hk] at h
  simpa using h
 ·exact .inl (by omega)
def PrPost (w w' : World) (g r : Nat) (A : Option Addr) (c : Nat) (l : List Tok) (x : Except Flt (Nat × List Int)) (e : Ending) : Prop :=
 Off2 w.heap.size g r w w' ∧ match x with
  | .error f => e = .panicked [{ v := faultV f, recovered := false }]
  | .ok (k, ps) => e = .returned (.tuple #[]) ∧ k ≤ l.length ∧ ∃ pv, Str w' g A c l k ∧ Cells w' r 162 [.pointer (some ⟨g, 0, Option.none⟩), pv, .slice Option.none 0 0] ∧ w'.ownsRow w.heap.size 3 1 pv ps.length (is ps)
theorem PrPost.err {w w' : World} {g r c : Nat} {A : Option Addr} {l : List Tok} {x : Except Flt (Nat × List Int)} {f : Flt} (hx : x = .error f) (ho : Off2 w.heap.size g r w w') : PrPost w w' g r A c l x (.panicked [{ v := faultV f, recovered := false }]) := by
 subst hx
 exact ⟨ho, rfl⟩
noncomputable def prFin (l : List Tok) (x : Except Flt (Nat × List Int)) : Except Flt (Nat × List Int) := match x with
 | .error e => .error e
 | .ok (k, ps) => if kindAt l k 6 then (if primeErr ps = 0 then .ok (k + 1, ps) else .error (fltAt l 0 (primeErr ps))) else .error (fltAt l k 15)
theorem prP_true {l : List Tok} (h : textAt l 0 1 [112, 114, 105, 109, 101, 115] = true) : prP smP primeErr l = prFin l (prRun smP l (l.length + 1) 1 []) := by
 unfold prP prFin
 rw [h]
 rfl
theorem panic_done {G : Prop} (h : G) (P : Program) (a : Act) (w : World) (_ : wpAny P .any #[] (fun _ _ _ => True) 0 #[] a w) : G := h
theorem TRow.off2 {w w' : World} {g r : Nat} {T S : TypeId} {xs ys : List Value} {v : Value} {x : List Int} (h : TRow w v x) (hc : Cells w g T xs) (hT : T ≠ 3) (hd : Cells w r S ys) (hS : S ≠ 3) (ho : Off2 w.heap.size g r w w') : TRow w' v x :=
 h.keep fun b cur p hcur => ho.block b (Array.getElem?_eq_some_iff.1 hcur).1
  (fun e => by
    subst e
    unfold Cells at hc
    rw [hc] at hcur
    injection hcur with hcur
    injection hcur with _ hcur _
    exact hT hcur)
  (fun e => by
    subst e
    unfold Cells at hd
    rw [hd] at hcur
    injection hcur with hcur
    injection hcur with _ hcur _
    exact hS hcur)
theorem Str.off2 {w w' : World} {g r c k k' : Nat} {A : Option Addr} {l : List Tok} {ys : List Value} (h : Str w g A c l k) (hd : Cells w r 162 ys) (ho : Off2 w.heap.size g r w w') (hs : Strm w' g (.slice A l.length c) k') : Str w' g A c l k' := by
 refine ⟨hs, ?_⟩
 obtain ⟨rvs, h1, h2, h3⟩ := h.toks
 refine ⟨rvs, h1, ⟨h2.1, ?_⟩, fun k t rv a b => (h3 k t rv a b).off2 h.strm (by decide) hd (by decide) ho⟩
 rcases h2.2 with hn | ⟨g', cap, cur, e, hb, hh, rest⟩
 ·exact .inl hn
 ·refine .inr ⟨g', cap, cur, e, hb, (ho.block g' (Array.getElem?_eq_some_iff.1 hh).1 (by omega) (fun e => ?_)).trans hh, rest⟩
  subst e
  unfold Cells at hd
  rw [hd] at hh
  injection hh with hh
  injection hh with _ hh _
  revert hh
  decide
end Go.Proofs.YtaaeekahhhookaaGreatDoor
