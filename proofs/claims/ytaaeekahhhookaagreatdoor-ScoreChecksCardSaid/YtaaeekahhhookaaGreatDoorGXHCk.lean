import Derived.Test.YtaaeekahhhookaaGreatDoorGXGCk
import Derived.Test.YtaaeekahhhookaaGreatDoorGXECk
namespace Go.Proofs.YtaaeekahhhookaaGreatDoor
open Go.RowKit Go.Lib
set_option maxRecDepth 100000 in
set_option maxHeartbeats 8000000 in
theorem rdPrimes_any {g c r : Nat} {A : Option Addr} {l : List Tok} {w : World} (h : Str w g A c l 0) (h0 : 0 < l.length) (hr : ∀ t ∈ l, t.row.length ≤ 1000) (hln : l.length ≤ 1000) (hc : Cells w r 162 [.pointer (some ⟨g, 0, Option.none⟩), .slice Option.none 0 0, .slice Option.none 0 0]) (hne : r ≠ g) (hnum : ∀ t ∈ l, t.kind = 2 → NumTok t) :
  Calls Tryz.prog 81 #[.pointer (some ⟨r, 0, Option.none⟩)] w fun e w' => PrPost w w' g r A c l (prP smP primeErr l) e := by
 have hi0 : min 0 (l.length - 1) < l.length := by omega
 have hf0 : ∀ x, fltAt l 0 x = ⟨(l[min 0 (l.length - 1)]'hi0).line, (l[min 0 (l.length - 1)]'hi0).col, x⟩ := fltAt_eq hi0 rfl
 have HAT := Lib.hid (at_place h (Nat.zero_le _) hln hi0 rfl)
 have HF0 := Lib.hid hf0
 generalize (l[min 0 (l.length - 1)]'hi0).line = ln0 at *
 generalize (l[min 0 (l.length - 1)]'hi0).col = cl0 at *
 obtain ⟨r0, r1, r2⟩ := cel3 hc
 have HC := Lib.hid hc
 have HC0 := Lib.hid hc
 have HS0 := Lib.hid h
 obtain ⟨i0, hi0, hz0, hz1, hz2⟩ := info_parts Tryz.info_int
 have hrw : r < w.heap.size := hc.lt
 have hgw : g < w.heap.size := Cells.lt h.strm
 obtain ⟨out, HO⟩ : ∃ out, Box (prP smP primeErr l = out) := ⟨_, ⟨rfl⟩⟩
 rw [HO.out]
 have HWY := Lib.hid (fun W pv vv (h : Str W g A c l 0) (ht : textAt l 0 1 [112, 114, 105, 109, 101, 115] = true) hc => rdWord_yes (r := r) (pv := pv) (vv := vv) [112, 114, 105, 109, 101, 115] h hr hln ht hc hne)
 have HWN := Lib.hid (fun W pv vv (h : Str W g A c l 0) (ht : textAt l 0 1 [112, 114, 105, 109, 101, 115] = false) hc => rdWord_no (r := r) (pv := pv) (vv := vv) [112, 114, 105, 109, 101, 115] h (Nat.zero_le _) hr ht hc hne)
 have HNN := Lib.hid (fun W k pv vv (h : Str W g A c l k) (hk : k ≤ l.length) hc => need_no (r := r) (pv := pv) (vv := vv) h hk h0 hln hc)
 have HNY := Lib.hid (fun W => need_yes r W)
 have HR : Box (∀ t ∈ l, t.row.length ≤ 1000) := ⟨hr⟩
 have HNM : Box (∀ t ∈ l, t.kind = 2 → NumTok t) := ⟨hnum⟩
 clear h hr hc hf0 hnum
 go_enter Tryz.func81, Tryz.ntmps81
 go_wp2_with fail
 refine HAT.out.mono ?_
 rintro e w1 ⟨rfl, hs1, hb1⟩
 have hw1 := hb1.size
 obtain ⟨W, hW⟩ : ∃ W, W = w1.alloc (.cells #[.int .i64 ln0, .int .i64 cl0] 31) := ⟨_, rfl⟩
 have hb2 : Below w1.heap.size w1 W := by rw [hW]; exact (Below.refl _ _).alloc (Nat.le_refl _) _
 have HPB := Cells.new w1 31 #[.int .i64 ln0, .int .i64 cl0]
 rw [← hW] at HPB
 have HPB := Lib.hid HPB
 have HS2 := Lib.hid (hs1.below hb2)
 have HB2 := Lib.hid (hb1.trans (hb2.mono hw1))
 have HC2 := Lib.hid (HC.out.below HB2.out hrw)
 obtain ⟨PB, hPB⟩ : ∃ PB, PB = w1.heap.size := ⟨_, rfl⟩
 have hPBw : w.heap.size ≤ PB := by omega
 have hPBW : PB < W.heap.size := by rw [hPB]; exact HPB.out.lt
 rw [← hPB] at HPB
 clear hs1 hb1 hb2 HC HAT
 cases htx : textAt l 0 1 [112, 114, 105, 109, 101, 115] with
 | false =>
   have HOE : Box (out = .error (fltAt l 0 15)) := ⟨by rw [← HO.out]; unfold prP; rw [htx]; rfl⟩
   go_wp2_with fail
   rw [← hW, ← hPB]
   clear hW hPB
   refine (HWN.out _ _ _ HS2.out htx HC2.out).mono ?_
   rintro e w3 ⟨rfl, hs3, ho3⟩
   have HC3 := Lib.hid (ho3.cells HC2.out HC2.out.lt hne)
   have HO3 := Lib.hid ((Off.of_below HB2.out).trans (ho3.mono HB2.out.size))
   have HS3 := Lib.hid hs3
   clear hs3 ho3
   go_wp2_with fail
   refine (HNN.out _ _ _ _ HS3.out (Nat.zero_le _) HC3.out).mono ?_
   rintro e w4 ⟨rfl, hs4, hb4⟩
   go_wp2_with fail
   exact ⟨rfl, PrPost.err HOE.out (Off2.of_off (HO3.out.trans (Off.of_below (hb4.mono HO3.out.size))))⟩
 | true =>
   obtain ⟨X, HX⟩ : ∃ X, Box (prRun smP l (l.length + 1) 1 [] = X) := ⟨_, ⟨rfl⟩⟩
   have HOX : Box (out = prFin l X) := ⟨by rw [← HO.out, prP_true htx, HX.out]⟩
   clear HO
   go_wp2_with fail
   rw [← hW, ← hPB]
   clear hW hPB
   refine (HWY.out _ _ _ HS2.out htx HC2.out).mono ?_
   rintro e w3 ⟨rfl, hs3, ho3⟩
   have HC3 := Lib.hid (ho3.cells HC2.out HC2.out.lt hne)
   have HO3 := Lib.hid (Off2.of_off (r := r) ((Off.of_below HB2.out).trans (ho3.mono HB2.out.size)))
   have HPB3 := Lib.hid (ho3.cells HPB.out hPBW (by omega))
   have HS3 := Lib.hid hs3
   clear hs3 ho3 HPB HC2 HS2 htx
   go_wp2_with fail
   refine (HNY.out _).mono ?_
   rintro e w4 ⟨rfl, rfl⟩
   go_wp2_with fail
   go_loopw [] (fun wr => ∃ (k : Nat) (ps : List Int) (pv : Value), k ≤ l.length ∧ ps.length ≤ k ∧ Str wr g A c l k ∧ Cells wr r 162 [.pointer (some ⟨g, 0, Option.none⟩), pv, .slice Option.none 0 0] ∧ wr.ownsRow (PB + 1) 3 1 pv ps.length (is ps) ∧ Cells wr PB 31 [.int .i64 ln0, .int .i64 cl0] ∧ Off2 w.heap.size g r w wr ∧ Box (prRun smP l (l.length + 2 - k) k ps = X)) (fun wr => l.length - plc g wr)
   case atStart => exact ⟨1, [], _, by omega, by simp, HS3.out, HC3.out, World.ownsRow_nil _ _ _ _, HPB3.out, HO3.out, ⟨HX.out⟩⟩
   case round =>
    obtain ⟨k, ps, pv, hk, hpl, hs, hc, ho, hpb, hof, HRX⟩ := hrel
    have hpc := plc_eq hs
    have hi : min k (l.length - 1) < l.length := by omega
    have HF := Lib.hid (fltAt_eq (k := k) hi rfl)
    have HAT := Lib.hid (at_place hs hk hln hi rfl)
    obtain ⟨q0, q1, q2⟩ := cel3 hc
    generalize (l[min k (l.length - 1)]'hi).line = ln at *
    generalize (l[min k (l.length - 1)]'hi).col = cl at *
    have HC1 := Lib.hid hc
    have HO1 := Lib.hid ho
    have HPB1 := Lib.hid hpb
    have HOF1 := Lib.hid hof
    have hrw1 := hc.lt
    have hpw1 := hpb.lt
    have hsz1 := hof.size
    clear hs hc ho hpb hof
    go_wp2_with fail
    refine HAT.out.mono ?_
    rintro e w5 ⟨rfl, hs5, hb5⟩
    have hw5 := hb5.size
    obtain ⟨W5, hW5⟩ : ∃ W5, W5 = w5.alloc (.cells #[.int .i64 ln, .int .i64 cl] 31) := ⟨_, rfl⟩
    have hb6 : Below w5.heap.size w5 W5 := by rw [hW5]; exact (Below.refl _ _).alloc (Nat.le_refl _) _
    have HPL := Cells.new w5 31 #[.int .i64 ln, .int .i64 cl]
    rw [← hW5] at HPL
    have HPL5 := Lib.hid HPL
    have hb56 := hb5.trans (hb6.mono hw5)
    have HS5 := Lib.hid (hs5.below hb6)
    have HC5 := Lib.hid (HC1.out.below hb56 hrw1)
    have HO5 := Lib.hid (own_below HO1.out hb56)
    have HPB5 := Lib.hid (HPB1.out.below hb56 hpw1)
    have HOF5 := Lib.hid (HOF1.out.trans (Off2.of_below (hb56.mono hsz1)))
    obtain ⟨p0, p1, p2⟩ := cel3 HC5.out
    obtain ⟨PL, hPL⟩ : ∃ PL, PL = w5.heap.size := ⟨_, rfl⟩
    have hPLw : wr.heap.size ≤ PL := by omega
    rw [← hPL] at HPL5
    clear hs5 hb5 hb6 hb56 HPL HC1 HO1 HPB1 HOF1 HAT q0 q1 q2
    go_upto_region 3 with (fail)
    rw [← hW5, ← hPL]
    clear hW5 hPL
    cases hkd : kindAt l k 2 with
    | false =>
      have HTK := Lib.hid (take_no 2 HS5.out HR.out (kindAt_no hkd hk))
      have HXE : Box (X = .ok (k, ps)) := ⟨by
       rw [← HRX.out, show l.length + 2 - k = (l.length + 1 - k) + 1 by omega, prRun_step, hkd]
       rfl⟩
      have HOE : Box (out = if kindAt l k 6 then (if primeErr ps = 0 then .ok (k + 1, ps) else .error (fltAt l 0 (primeErr ps))) else .error (fltAt l k 15)) := ⟨by rw [HOX.out, HXE.out]; rfl⟩
      clear HRX HXE HOX
      go_wp2_with fail
      refine HTK.out.mono ?_
      rintro e w6 ⟨rfl, hs6, ho6⟩
      unfold tokZA
      have hw6 := ho6.size
      obtain ⟨W6, hW6⟩ : ∃ W6, W6 = w6.alloc (.cells #[.int .i64 0, .string ⟨#[]⟩, .string ⟨#[]⟩, .string ⟨#[]⟩, .slice Option.none 0 0, .int .i64 0, .int .i64 0] 92) := ⟨_, rfl⟩
      have hb6 : Below w6.heap.size w6 W6 := by rw [hW6]; exact (Below.refl _ _).alloc (Nat.le_refl _) _
      have ho56 : Off W5.heap.size g W5 W6 := ho6.trans (Off.of_below (hb6.mono hw6))
      have HS6 := Lib.hid (hs6.below hb6)
      have HC6 := Lib.hid (ho56.cells HC5.out HC5.out.lt hne)
      have HO6 := Lib.hid (own_off HO5.out ho56 (by omega))
      have HPB6 := Lib.hid (ho56.cells HPB5.out HPB5.out.lt (by omega))
      have HOF6 := Lib.hid (HOF5.out.trans (Off2.of_off (ho56.mono HOF5.out.size)))
      clear hs6 ho6 hb6 ho56 HC5 HO5 HPB5 HOF5 HS5 HTK p0 p1 p2
      go_wp2_with fail
      rw [← hW6]
      clear hW6
      cases hkd6 : kindAt l k 6 with
      | false =>
        rw [hkd6] at HOE
        refine (rdTake_no 6 HS6.out hk h0 HR.out hln hkd6 HC6.out hne).mono ?_
        rintro e w7 ⟨rfl, hs7, ho7⟩
        go_wp2_with fail
        exact ⟨rfl, PrPost.err HOE.out (HOF6.out.trans (Off2.of_off (ho7.mono HOF6.out.size)))⟩
      | true =>
        rw [hkd6, if_pos rfl] at HOE
        obtain ⟨hkl, hq6⟩ := kindAt_yes hkd6
        refine (rdTake_yes 6 HS6.out hkl HR.out hln hq6 HC6.out).mono ?_
        rintro e w7 ⟨⟨A7, c7, rfl, _⟩, hs7, ho7⟩
        have HC7 := Lib.hid (ho7.cells HC6.out HC6.out.lt hne)
        have HO7 := Lib.hid (own_off HO6.out ho7 (by omega))
        have HPB7 := Lib.hid (ho7.cells HPB6.out HPB6.out.lt (by omega))
        have HOF7 := Lib.hid (HOF6.out.trans (Off2.of_off (ho7.mono HOF6.out.size)))
        have HS7 := Lib.hid hs7
        obtain ⟨q0, q1, q2⟩ := cel3 HC7.out
        obtain ⟨s0, s1⟩ := cel2 HPB7.out
        have HPC := Lib.hid (fun W (hB : Below w7.heap.size w7 W) => primeCheck_any pv ps _ W ((IsRow.of_own HO7.out).lift hB))
        clear hs7 ho7 HC6 HO6 HPB6 HOF6 HS6
        have hB : Below w7.heap.size w7 w7.drew := below_to_drew (Below.refl _ _)
        have HFE := Lib.hid (HF0.out (primeErr ps))
        by_cases hpe : primeErr ps = 0
        ·rw [if_pos hpe] at HOE
         rw [hpe] at HPC
         have HCK := Lib.hid (fun W => rdCheck_ok ln0 cl0 W)
         clear hpe HFE
         go_wp2_with fail
         go_region_law (first
          | (go_simp; go_at_call 32; (with_reducible refine (HPC.out _ hB).mono ?_); rintro e wA ⟨rfl, rfl⟩)
          | (go_simp; go_at_call 123; (with_reducible refine (HCK.out _).mono ?_); rintro e wA ⟨rfl, hbk⟩; replace hB := hB.trans (hbk.mono hB.size); clear hbk))
         all_goals
          go_end0
          rw [HOE.out]
          exact ⟨HOF7.out.trans (Off2.of_below (hB.mono HOF7.out.size)), rfl, by omega, pv, HS7.out.below hB, HC7.out.below hB HC7.out.lt, own_base (own_below HO7.out hB) (by omega)⟩
        ·rw [if_neg hpe, HFE.out] at HOE
         have HCK := Lib.hid (fun W => rdCheck_bad ln0 cl0 (primeErr ps) W hpe)
         clear HFE
         generalize primeErr ps = pe at *
         go_wp2_with fail
         go_region_law (first
          | (go_simp; go_at_call 32; (with_reducible refine (HPC.out _ hB).mono ?_); rintro e wA ⟨rfl, rfl⟩)
          | (go_simp; go_at_call 123; (with_reducible refine (HCK.out _).mono ?_); rintro e wA ⟨rfl, hbk⟩; refine panic_done ⟨rfl, PrPost.err HOE.out (HOF7.out.trans (Off2.of_below ((hB.trans (hbk.mono hB.size)).mono HOF7.out.size)))⟩ Tryz.prog { tmps := #[], defers := [] } wA ?_))
         all_goals trivial
    | true =>
      obtain ⟨hkl, hq⟩ := kindAt_yes hkd
      have HTK := Lib.hid (take_yes 2 HS5.out hkl HR.out hln hq)
      obtain ⟨n, d, en, ed, hd0, hg1, hnl, hdl⟩ := HNM.out _ (List.getElem_mem hkl) hq
      have hta : tokAt l k = l[k]'hkl := by unfold tokAt; rw [List.getElem?_eq_getElem hkl]; rfl
      have HXE : Box (X = (match (if d = 1 ∧ (decDigits n.natAbs).length ≤ 18 then some n else none) with | some n => prRun smP l (l.length + 2 - (k + 1)) (k + 1) (ps ++ [n]) | none => .error (fltAt l k 27))) := ⟨by
       rw [← HRX.out, show l.length + 2 - k = (l.length + 2 - (k + 1)) + 1 by omega, prRun_step, hkd, if_pos rfl, hta, en, ed, smP_itoa]
       generalize (if d = 1 ∧ (decDigits n.natAbs).length ≤ 18 then some n else none) = q
       cases q <;> rfl⟩
      have hFE := HF.out 27
      clear HRX hta
      generalize l[k]'hkl = t at *
      obtain ⟨k0, x0, n0, d0, ro, l0, o0⟩ := t
      dsimp only at *
      subst hq en ed
      go_wp2_with fail
      refine HTK.out.mono ?_
      rintro e w6 ⟨⟨A6, c6, rfl, _⟩, hs6, ho6⟩
      dsimp only
      have hw6 := ho6.size
      obtain ⟨W6, hW6⟩ : ∃ W6, W6 = w6.alloc (.cells #[.int .i64 2, .string ⟨x0.toArray⟩, .string ⟨(itoa n).toArray⟩, .string ⟨(itoa d).toArray⟩, .slice A6 ro.length c6, .int .i64 l0, .int .i64 o0] 92) := ⟨_, rfl⟩
      have hb6 : Below w6.heap.size w6 W6 := by rw [hW6]; exact (Below.refl _ _).alloc (Nat.le_refl _) _
      have HX6 := Cells.new w6 92 #[.int .i64 2, .string ⟨x0.toArray⟩, .string ⟨(itoa n).toArray⟩, .string ⟨(itoa d).toArray⟩, .slice A6 ro.length c6, .int .i64 l0, .int .i64 o0]
      rw [← hW6] at HX6
      obtain ⟨⟨_, _, y2, y3, _⟩, _⟩ := cells7 HX6
      have ho56 : Off W5.heap.size g W5 W6 := ho6.trans (Off.of_below (hb6.mono hw6))
      have HS6 := Lib.hid (hs6.below hb6)
      have HC6 := Lib.hid (ho56.cells HC5.out HC5.out.lt hne)
      have HO6 := Lib.hid (own_off HO5.out ho56 (by omega))
      have HPB6 := Lib.hid (ho56.cells HPB5.out HPB5.out.lt (by omega))
      have HPL6 := Lib.hid (ho56.cells HPL5.out HPL5.out.lt (by omega))
      have HOF6 := Lib.hid (HOF5.out.trans (Off2.of_off (ho56.mono HOF5.out.size)))
      clear hs6 ho6 hb6 ho56 HX6 HC5 HO5 HPB5 HOF5 HS5 HTK p0 p1 p2 HPL5
      go_upto_region 5 with (fail)
      rw [← hW6]
      clear hW6
      by_cases hsm : (decDigits n.natAbs).length ≤ 18 ∧ (itoa d).length ≤ 18
      ·have HSM := Lib.hid (fun W => fSmall_yes n d W hsm.1 hsm.2)
       by_cases hd1 : d = 1
       ·subst hd1
        rw [if_pos ⟨rfl, hsm.1⟩] at HXE
        clear hsm hd0 hg1 hnl hdl HF hFE
        generalize itoa n = nt at *
        generalize itoa 1 = dt at *
        go_wp2_with fail
        refine (HSM.out _).mono ?_
        rintro e w7 ⟨rfl, hb7⟩
        have HS7 := Lib.hid (HS6.out.below hb7)
        have HC7 := Lib.hid (HC6.out.below hb7 HC6.out.lt)
        have HO7 := Lib.hid (own_below HO6.out hb7)
        have HPB7 := Lib.hid (HPB6.out.below hb7 HPB6.out.lt)
        have HOF7 := Lib.hid (HOF6.out.trans (Off2.of_below (hb7.mono HOF6.out.size)))
        obtain ⟨p0, p1, p2⟩ := cel3 HC7.out
        have f1 := HC7.out.free 1
        have hs7 := HC7.out.lt
        have hpb7 := HPB7.out.lt
        have hgw7 : g < w7.heap.size := Cells.lt HS7.out.strm
        have hof7 := HOF7.out.size
        clear hb7 HS6 HC6 HO6 HPB6 HPL6 HOF6 y2 y3
        go_upto_region 8 with (fail)
        go_wp2_with (at_builtin; go_loud (refine wpList_append_own _ rfl _ _ _ rfl (PB + 1) 3 i0 (.int .i64 0) 1 8 Tryz.underlying26 hi0 hz0 hz1 hz2 rfl (by decide) _ _ _ rfl (HO7.out.alloc _) ⟨w7.heap.size, 0, Option.none⟩ 1 1 [.int .i64 n] rfl rfl (cell_one_new _ _ _) (by intro u hu; simp at hu; subst hu; rfl) (by unfold maxLen; omega) (by omega) (by simp; omega) ?_; intro v9 w9 hown9 hg9 _; obtain ⟨A9, c9, rfl, _⟩ := Row.of_own hown9; have hne9 : some r ≠ pv.ownBlock := (fun e => by have := (HO7.out.lt _ e.symm).1; omega); have hc9 := (HC7.out.alloc (.cells #[.int .i64 n] 3)).grown hg9 hne9; have f9 := hc9.free 1; obtain ⟨s8, s9, _⟩ := cel3 hc9))
        have HC9 := Lib.hid (hc9.set 1 (.slice A9 (ps.length + 1) c9))
        have hst9 : Strm (w9.setCell ⟨r, 1, Option.none⟩ (.slice A9 (ps.length + 1) c9)) g (.slice A l.length c) ((k + 1 : Nat) : Int) := ((Cells.alloc HS7.out.strm (.cells #[.int .i64 n] 3)).grown hg9 (fun e => by have := (HO7.out.lt _ e.symm).1; omega)).far (p := ⟨r, 1, Option.none⟩) (by show g ≠ r; omega) (.slice A9 (ps.length + 1) c9)
        have hoff : Off2 w.heap.size g r w (w9.setCell ⟨r, 1, Option.none⟩ (.slice A9 (ps.length + 1) c9)) := by
         refine Off2.setCell (Off2.trans HOF7.out ?_) (.inr rfl) _
         exact Off2.of_below (((Below.refl _ _).alloc (by omega) _).grown hg9 (by simp; omega) (fun j hj => by have := (HO7.out.lt j hj).1; omega))
        have HPB9 := Lib.hid (((HPB7.out.alloc (.cells #[.int .i64 n] 3)).grown hg9 (fun e => by have := (HO7.out.lt _ e.symm).1; omega)).far (p := ⟨r, 1, Option.none⟩) (by show PB ≠ r; omega) (.slice A9 (ps.length + 1) c9))
        have HOW9 := Lib.hid (ownsRow_setCell_below hown9 (a := ⟨r, 1, Option.none⟩) (by show r < PB + 1; omega) (.slice A9 (ps.length + 1) c9))
        go_roundw
        case rel => exact ⟨k + 1, ps ++ [n], (.slice A9 (ps.length + 1) c9), by omega, by simp; omega, HS0.out.off2 HC0.out hoff hst9, HC9.out, by simpa [is] using HOW9.out, HPB9.out, hoff, ⟨HXE.out.symm⟩⟩
        case measure => rw [plc_eq (HS0.out.off2 HC0.out hoff hst9), hpc]; omega
       ·have HPE : Box (out = .error ⟨ln, cl, 27⟩) := ⟨by rw [HOX.out, HXE.out, if_neg (fun h => hd1 h.1), ← hFE]; rfl⟩
        have hd1b : (d != 1) = true := by rw [bne_iff_ne]; exact hd1
        clear HXE HOX hsm hd0 hg1 hnl hdl HF hFE hd1
        generalize itoa n = nt at *
        generalize itoa d = dt at *
        go_wp2_with fail
        refine (HSM.out _).mono ?_
        rintro e w7 ⟨rfl, hb7⟩
        have HPL7 := Lib.hid (HPL6.out.below hb7 HPL6.out.lt)
        have HOF7 := Lib.hid (HOF6.out.trans (Off2.of_below (hb7.mono HOF6.out.size)))
        obtain ⟨m0, m1⟩ := cel2 HPL7.out
        clear hb7
        go_wp2_with fail
        refine (rdCheck_bad ln cl 27 _ (by decide)).mono ?_
        rintro e w8 ⟨rfl, hb8⟩
        go_wp2_with fail
        exact ⟨rfl, PrPost.err HPE.out (HOF7.out.trans (Off2.of_below (hb8.mono HOF7.out.size)))⟩
      ·have HPE : Box (out = .error ⟨ln, cl, 27⟩) := ⟨by
        rw [HOX.out, HXE.out, if_neg, ← hFE]
        ·rfl
        ·rintro ⟨rfl, h2⟩
         exact hsm ⟨h2, by have : itoa 1 = [49] := by kernel_rfl
                           rw [this]
                           decide⟩⟩
       have HSM := Lib.hid (fun W => fSmall_no n d W (by omega) (by omega) (by omega))
       clear HXE HOX hsm hd0 hg1 hnl hdl HF hFE
       generalize itoa n = nt at *
       generalize itoa d = dt at *
       go_wp2_with fail
       refine (HSM.out _).mono ?_
       rintro e w7 ⟨rfl, hb7⟩
       have HPL7 := Lib.hid (HPL6.out.below hb7 HPL6.out.lt)
       have HOF7 := Lib.hid (HOF6.out.trans (Off2.of_below (hb7.mono HOF6.out.size)))
       obtain ⟨m0, m1⟩ := cel2 HPL7.out
       clear hb7
       go_wp2_with fail
       refine (rdCheck_bad ln cl 27 _ (by decide)).mono ?_
       rintro e w8 ⟨rfl, hb8⟩
       go_wp2_with fail
       exact ⟨rfl, PrPost.err HPE.out (HOF7.out.trans (Off2.of_below (hb8.mono HOF7.out.size)))⟩
theorem KpT.of_off {g : Nat} {w w' : World} {xs : List Value} (h : Off w.heap.size g w w') (hc : Cells w g 196 xs) : KpT [196] w.heap.size w w' :=
 ⟨h.size, fun b T hb ht hn => h.block b hb fun e => by
   subst e
   exact hn (by rw [ht.one (TyB.of_cells hc)]; simp)⟩
theorem own_kpt {E : List TypeId} {w w' : World} {base size n : Nat} {T : TypeId} {v : Value} {xs : List Value} (h : w.ownsRow base T size v n xs) (hk : KpT E w.heap.size w w') (hT : T ∉ E) : w'.ownsRow base T size v n xs :=
 own_keep h fun b hb => hk.block b T (h.lt b hb).2 (TyB.of_own h hb) hT
def EvO (w : World) (base : Nat) (v : Value) (l : List Ev) : Prop := ∃ css, LO 54 3 (EvQ w w.heap.size) w base v l css
theorem EvO.nil (w : World) (base : Nat) : EvO w base (.slice Option.none 0 0) [] := ⟨[], LO.nil _ _⟩
theorem EvO.kpt {E : List TypeId} {w w' : World} {base : Nat} {v : Value} {l : List Ev} (h : EvO w base v l) (hk : KpT E w.heap.size w w') (h1 : 3 ∉ E) (h2 : 40 ∉ E) (h3 : 54 ∉ E) : EvO w' base v l := by
 obtain ⟨css, h⟩ := h
 exact ⟨css, h.kpt hk h3 (fun g hg => (h.lt g hg).2) fun _ _ _ hq => hq.keep hk h1 h2 hk.size⟩
theorem EvO.shape {w : World} {base : Nat} {v : Value} {l : List Ev} (h : EvO w base v l) : ∃ A c, v = .slice A l.length c ∧ l.length ≤ c ∧ c ≤ maxLen ∧ EvsT w w.heap.size A l := by
 obtain ⟨css, h⟩ := h
 exact h.shape
def VsO (w : World) (B : Nat) (vv : Value) (vs : List Vc) : Prop :=
 (vs = [] ∧ vv = .slice Option.none 0 0) ∨
 ∃ (init : List Vc) (v : Vc) (cssI : List (List Value)) (ev : Value) (bL : Nat), vs = init ++ [v] ∧ w.ownsRow B 48 2 vv (init.length + 1) (cssI.flatten ++ [.string ⟨v.name.toArray⟩, ev]) ∧ cssI.length = init.length ∧ (∀ cs ∈ cssI, cs.length = 2) ∧ (∀ (k : Nat) (x : Vc) (cs : List Value), init[k]? = some x → cssI[k]? = some cs → VcQ w bL x cs) ∧ EvO w bL ev v.evs ∧ bL ≤ w.heap.size ∧ B ≤ bL
theorem VsO.nil (w : World) (B : Nat) : VsO w B (.slice Option.none 0 0) [] := .inl ⟨rfl, rfl⟩
theorem VsO.kpt {E : List TypeId} {w w' : World} {B : Nat} {vv : Value} {vs : List Vc} (h : VsO w B vv vs) (hk : KpT E w.heap.size w w') (h1 : 3 ∉ E) (h2 : 40 ∉ E) (h3 : 54 ∉ E) (h4 : 48 ∉ E) : VsO w' B vv vs := by
 rcases h with h | ⟨init, v, cssI, ev, bL, e, ho, hl, hls, hq, he, hb, hBL⟩
 ·exact .inl h
 ·exact .inr ⟨init, v, cssI, ev, bL, e, own_kpt ho hk h4, hl, hls, fun k x cs a b => (hq k x cs a b).keep (hk.mono hb) h1 h2 h3 (Nat.le_refl _), he.kpt hk h1 h2 h3, Nat.le_trans hb hk.size, hBL⟩
theorem VsO.off {w w' : World} {g B : Nat} {vv : Value} {vs : List Vc} {xs : List Value} (h : VsO w B vv vs) (ho : Off w.heap.size g w w') (hc : Cells w g 196 xs) : VsO w' B vv vs := h.kpt (KpT.of_off ho hc) (by decide) (by decide) (by decide) (by decide)
theorem VsO.below {w w' : World} {B : Nat} {vv : Value} {vs : List Vc} (h : VsO w B vv vs) (hb : Below w.heap.size w w') : VsO w' B vv vs := h.kpt (E := []) (KpT.of_below hb) (by simp) (by simp) (by simp) (by simp)
theorem VsO.shape {w : World} {B : Nat} {vv : Value} {vs : List Vc} (h : VsO w B vv vs) : ∃ A c, vv = .slice A vs.length c ∧ vs.length ≤ c ∧ c ≤ maxLen ∧ VcsT w w.heap.size A vs := by
 rcases h with ⟨rfl, rfl⟩ | ⟨init, v, cssI, ev, bL, rfl, ho, hl, hls, hq, he, hb, hBL⟩
 ·exact ⟨Option.none, 0, rfl, Nat.le_refl _, Nat.zero_le _, LT.nil _ _ _⟩
 ·obtain ⟨A, c, rfl, h5, h6, h7⟩ := he.shape
  have hlo : LO 48 2 (VcQ w w.heap.size) w B vv (init ++ [v]) (cssI ++ [[.string ⟨v.name.toArray⟩, .slice A v.evs.length c]]) := by
   refine ⟨by rw [List.length_append, List.flatten_append]; simpa using ho, by rw [List.length_append, List.length_append, hl]; rfl, fun cs hcs => ?_, fun k x cs a b => ?_⟩
   ·rcases List.mem_append.1 hcs with hcs | hcs
    ·exact hls cs hcs
    ·simp at hcs; rw [hcs]; rfl
   ·by_cases hk : k < init.length
    ·rw [List.getElem?_append_left hk] at a
     rw [List.getElem?_append_left (by omega)] at b
     exact (hq k x cs a b).keep (E := []) (KpT.refl _ _ _) (by simp) (by simp) (by simp) hb
    ·rw [List.getElem?_append_right (by omega)] at a
     rw [List.getElem?_append_right (by omega), hl] at b
     have h0 : k - init.length = 0 := by have := (List.getElem?_eq_some_iff.1 a).1; simpa using this
     rw [h0] at a b
     simp at a b
     subst a b
     exact ⟨A, c, rfl, h5, h6, h7⟩
  obtain ⟨A2, c2, e2, h8, h9, h10⟩ := hlo.shape
  exact ⟨A2, c2, e2, h8, h9, h10⟩
theorem VsO.own {w : World} {B : Nat} {vv : Value} {vs : List Vc} (h : VsO w B vv vs) : ∃ xs, w.ownsRow B 48 2 vv vs.length xs ∧ ∀ (w' : World) (vv' : Value) (nm : List UInt8), KpT [48] w.heap.size w w' → w'.ownsRow B 48 2 vv' (vs.length + 1) (xs ++ [.string ⟨nm.toArray⟩, .slice Option.none 0 0]) → VsO w' B vv' (vs ++ [⟨nm, []⟩]) := by
 rcases h with ⟨rfl, rfl⟩ | ⟨init, v, cssI, ev, bL, rfl, ho, hl, hls, hq, he, hb, hBL⟩
 ·refine ⟨[], World.ownsRow_nil _ _ _ _, fun w' vv' nm hk ho => ?_⟩
  have hBw : B ≤ w'.heap.size := by
   obtain ⟨gv, cv, rfl, h1, h2⟩ := ho.form (by omega)
   omega
  exact .inr ⟨[], ⟨nm, []⟩, [], _, w'.heap.size, rfl, by simpa using ho, rfl, by simp, fun k x cs a => by simp at a, EvO.nil _ _, Nat.le_refl _, hBw⟩
 ·refine ⟨cssI.flatten ++ [.string ⟨v.name.toArray⟩, ev], by rw [List.length_append]; exact ho, fun w' vv' nm hk ho' => ?_⟩
  obtain ⟨A, c, rfl, h5, h6, h7⟩ := (he.kpt hk (by decide) (by decide) (by decide)).shape
  have hBw : B ≤ w'.heap.size := Nat.le_trans hBL (Nat.le_trans hb hk.size)
  refine .inr ⟨init ++ [v], ⟨nm, []⟩, cssI ++ [[.string ⟨v.name.toArray⟩, .slice A v.evs.length c]], _, w'.heap.size, rfl, ?_, by rw [List.length_append, List.length_append, hl]; rfl, fun cs hcs => ?_, fun k x cs a b => ?_, EvO.nil _ _, Nat.le_refl _, hBw⟩
  ·rw [List.flatten_append]
   simpa using ho'
  ·rcases List.mem_append.1 hcs with hcs | hcs
   ·exact hls cs hcs
   ·simp at hcs; rw [hcs]; rfl
  ·by_cases hkk : k < init.length
   ·rw [List.getElem?_append_left hkk] at a
    rw [List.getElem?_append_left (by omega)] at b
    exact (hq k x cs a b).keep (hk.mono hb) (by decide) (by decide) (by decide) (Nat.le_trans hb hk.size)
   ·rw [List.getElem?_append_right (by omega)] at a
    rw [List.getElem?_append_right (by omega), hl] at b
    have h0 : k - init.length = 0 := by have := (List.getElem?_eq_some_iff.1 a).1; simpa using this
    rw [h0] at a b
    simp at a b
    subst a b
    exact ⟨A, c, rfl, h5, h6, h7⟩
theorem set_last2 (F : List Value) (a u v : Value) : (F ++ [a, u]).set (F.length + 1) v = F ++ [a, v] := by
 rw [List.set_append_right _ _ (by omega), show F.length + 1 - F.length = 1 by omega]
 rfl
theorem flat_len2 : ∀ (css : List (List Value)), (∀ c ∈ css, c.length = 2) → css.flatten.length = css.length * 2 := fun css h => flat_lenS css 2 h
theorem VsO.last {w : World} {B : Nat} {vv : Value} {vs : List Vc} (h : VsO w B vv vs) (hne : 0 < vs.length) : ∃ (gv c bL n : Nat) (ev : Value) (css : List (List Value)) (xs : List Value) (evs : List Ev), vs.length = n + 1 ∧ vv = .slice (some ⟨gv, 0, Option.none⟩) (n + 1) c ∧ Cells w gv 48 xs ∧ xs[n * 2 + 1]? = some ev ∧ LO 54 3 (EvQ w w.heap.size) w bL ev evs css ∧ bL ≤ w.heap.size ∧ B ≤ bL ∧ (∃ v, v ∈ vs ∧ v.evs = evs) ∧
  (∀ (w1 : World) (v' : Value) (x : Ev) (xc : List Value), KpT [54] w.heap.size w w1 → KpT [] bL w w1 → w1.ownsRow bL 54 3 v' (evs.length + 1) (css.flatten ++ xc) → EvQ w1 w1.heap.size x xc → xc.length = 3 → VsO (w1.setCell ⟨gv, n * 2 + 1, Option.none⟩ v') B vv (addEv vs x)) := by
 rcases h with ⟨rfl, _⟩ | ⟨init, v, cssI, ev, bL, rfl, ho, hl, hls, hq, he, hb, hBL⟩
 ·simp at hne
 ·obtain ⟨css, he⟩ := he
  obtain ⟨gv, c, rfl, _, _⟩ := ho.form (by omega)
  obtain ⟨xs, hxs, hgB, hnc, hcm, hcl, htk⟩ := own_parts2 ho
  have hfl := flat_len2 cssI hls
  rw [hl] at hfl
  refine ⟨gv, c, bL, init.length, ev, css, xs, v.evs, by simp, rfl, hxs, ?_, he, hb, hBL, ⟨v, by simp, rfl⟩, fun w1 v' x xc hk hkb ho1 hx hxc => ?_⟩
  ·have h1 : (xs.take ((init.length + 1) * 2))[init.length * 2 + 1]? = some ev := by
    rw [htk, List.getElem?_append_right (by omega), hfl, show init.length * 2 + 1 - init.length * 2 = 1 by omega]
    rfl
   rwa [List.getElem?_take_of_lt (by omega)] at h1
  ·have hxs1 : Cells w1 gv 48 xs := (hk.block gv _ hxs.lt (TyB.of_cells hxs) (by decide)).trans hxs
   have hlo := LO.push (Q' := EvQ w1 w1.heap.size) he (fun _ _ _ hq => hq.keep hk (by decide) (by decide) hk.size) hx hxc ho1
   have hk2 : KpT [48] w1.heap.size w1 (w1.setCell ⟨gv, init.length * 2 + 1, Option.none⟩ v') := (KpT.refl _ _ _).setCell (TyB.of_cells hxs1) (by simp) _
   rw [addEv_last]
   refine .inr ⟨init, ⟨v.name, v.evs ++ [x]⟩, cssI, v', bL, rfl, ?_, hl, hls, fun k y cs a b => ?_, EvO.kpt ⟨_, hlo⟩ hk2 (by decide) (by decide) (by decide), ?_⟩
   ·have hown := own_of2 (n := init.length + 1) (c := c) (hxs1.set (init.length * 2 + 1) v') hgB hnc hcm (by rw [List.length_set]; exact hcl)
    have e : (xs.set (init.length * 2 + 1) v').take ((init.length + 1) * 2) = cssI.flatten ++ [.string ⟨v.name.toArray⟩, v'] := by
     rw [List.take_set, htk, ← hfl, set_last2]
    rw [e] at hown
    exact hown
   ·exact ((hq k y cs a b).keep hkb (by simp) (by simp) (by simp) (Nat.le_refl _)).keep (hk2.mono (Nat.le_trans hb hk.size)) (by decide) (by decide) (by decide) (Nat.le_refl _)
   ·exact ⟨Nat.le_trans hb (Nat.le_trans hk.size hk2.size), hBL⟩
structure RdS (w0 w : World) (g r : Nat) (A : Option Addr) (c : Nat) (l : List Tok) (k : Nat) (pv vv : Value) (p : List Int) (vs : List Vc) : Prop where
 str : Str w g A c l k
 cel : Cells w r 162 [.pointer (some ⟨g, 0, Option.none⟩), pv, vv]
 prs : w.ownsRow w0.heap.size 3 1 pv p.length (is p)
 vso : VsO w w0.heap.size vv vs
 low : Below w0.heap.size w0 w
 g0 : w0.heap.size ≤ g
 r0 : w0.heap.size ≤ r
 ne : r ≠ g
section
variable {w0 w w' : World} {g r c k k' : Nat} {A : Option Addr} {l : List Tok} {pv vv : Value} {p : List Int} {vs : List Vc}
theorem RdS.off (h : RdS w0 w g r A c l k pv vv p vs) (hs : Str w' g A c l k') (ho : Off w.heap.size g w w') : RdS w0 w' g r A c l k' pv vv p vs :=
 ⟨hs, ho.cells h.cel h.cel.lt h.ne, own_kpt h.prs (KpT.of_off ho h.str.strm) (by decide), h.vso.off ho h.str.strm, h.low.trans (ho.base h.low.size h.g0), h.g0, h.r0, h.ne⟩
theorem RdS.below (h : RdS w0 w g r A c l k pv vv p vs) (hb : Below w.heap.size w w') : RdS w0 w' g r A c l k pv vv p vs := h.off (h.str.below hb) (Off.of_below hb)
theorem RdS.std (h : RdS w0 w g r A c l k pv vv p vs) (hS : Std w0) : Std w := hS.below h.low (Nat.le_refl _)
def LnPost (w0 w' : World) (g r : Nat) (A : Option Addr) (c : Nat) (l : List Tok) (pv : Value) (p : List Int) (x : Except Flt (Nat × List Vc)) (e : Ending) : Prop :=
 Below w0.heap.size w0 w' ∧ match x with
  | .error f => e = .panicked [{ v := faultV f, recovered := false }]
  | .ok (j, vs) => e = .returned (.tuple #[]) ∧ j ≤ l.length ∧ ∃ vv, RdS w0 w' g r A c l j pv vv p vs
theorem LnPost.err {x : Except Flt (Nat × List Vc)} {f : Flt} (hx : x = .error f) (ho : Below w0.heap.size w0 w') : LnPost w0 w' g r A c l pv p x (.panicked [{ v := faultV f, recovered := false }]) := by
 subst hx
 exact ⟨ho, rfl⟩
theorem LnPost.ok {x : Except Flt (Nat × List Vc)} {j : Nat} (hx : x = .ok (j, vs)) (hj : j ≤ l.length) (h : RdS w0 w' g r A c l j pv vv p vs) : LnPost w0 w' g r A c l pv p x (.returned (.tuple #[])) := by
 subst hx
 exact ⟨h.low, rfl, hj, vv, h⟩
end
theorem tok_field1 (W : World) (a0 a1 a2 a3 a4 a5 a6 : Value) : (Instr.field 92 (.agg #[a0, a1, a2, a3, a4, a5, a6]) 1).run Tryz.prog W = .ok a1 W := by kernel_rfl
theorem tok_field2 (W : World) (a0 a1 a2 a3 a4 a5 a6 : Value) : (Instr.field 92 (.agg #[a0, a1, a2, a3, a4, a5, a6]) 2).run Tryz.prog W = .ok (.agg #[a2, a3]) W := by kernel_rfl
theorem Tryz.info_voice48 : (Tryz.prog.info? 48).map (fun i => (i.zero, i.size, i.bytes)) = some (some (.agg #[.string ⟨#[]⟩, .slice Option.none 0 0]), 2, 40) := by kernel_rfl
theorem Tryz.info_event48 : (Tryz.prog.info? 54).map (fun i => (i.zero, i.size, i.bytes)) = some (some (.agg #[.string ⟨#[]⟩, .string ⟨#[]⟩, .slice Option.none 0 0]), 3, 56) := by kernel_rfl
end Go.Proofs.YtaaeekahhhookaaGreatDoor
namespace Go.Proofs.YtaaeekahhhookaaGreatDoor
open Go.RowKit Go.Lib
set_option maxRecDepth 100000 in
set_option maxHeartbeats 4000000 in
theorem rdLine_none {nt : List Int → Tok → List Int × Int} {w0 w : World} {g r c k : Nat} {A : Option Addr} {l : List Tok} {pv vv : Value} {p : List Int} (h : RdS w0 w g r A c l k pv vv p []) (hk : k < l.length) (hr : ∀ t ∈ l, t.row.length ≤ 1000) (hln : l.length ≤ 1000) (ht : textAt l k 1 [118, 111, 105, 99, 101] = false) :
  Calls Tryz.prog 83 #[.pointer (some ⟨r, 0, Option.none⟩)] w fun e w' => LnPost w0 w' g r A c l pv p (lineP nt l p [] k) e := by
 have HX : Box (lineP nt l p [] k = .error (fltAt l k 15)) := ⟨by unfold lineP; rw [ht]; rfl⟩
 have HW := Lib.hid (rdWord_no (r := r) (pv := pv) (vv := vv) [118, 111, 105, 99, 101] h.str (Nat.le_of_lt hk) hr ht h.cel h.ne)
 have HN := Lib.hid (fun W (h : RdS w0 W g r A c l k pv vv p []) => need_no (r := r) (pv := pv) (vv := vv) h.str (Nat.le_of_lt hk) (by omega) hln h.cel)
 have HR := Lib.hid h
 generalize lineP nt l p [] k = out at *
 obtain ⟨A9, c9, rfl, _⟩ := h.vso.shape
 clear h ht hr hln
 go_enter Tryz.func83, Tryz.ntmps83
 go_wp2_with fail
 refine HW.out.mono ?_
 rintro e w1 ⟨rfl, hs1, ho1⟩
 have HR1 := Lib.hid (HR.out.off hs1 ho1)
 obtain ⟨q0, q1, q2⟩ := cel3 HR1.out.cel
 clear hs1 ho1 HW HR
 go_wp2_with fail
 refine (HN.out _ HR1.out).mono ?_
 rintro e w2 ⟨rfl, hs2, hb2⟩
 go_wp2_with fail
 exact ⟨rfl, LnPost.err HX.out (HR1.out.low.trans (hb2.mono HR1.out.low.size))⟩
set_option maxRecDepth 100000 in
set_option maxHeartbeats 4000000 in
theorem rdLine_num {nt : List Int → Tok → List Int × Int} {w0 w : World} {g r c k : Nat} {A : Option Addr} {l : List Tok} {pv vv : Value} {p : List Int} {vs : List Vc} (h : RdS w0 w g r A c l k pv vv p vs) (hk : k < l.length) (hr : ∀ t ∈ l, t.row.length ≤ 1000) (hln : l.length ≤ 1000) (ht : textAt l k 1 [118, 111, 105, 99, 101] = false) (hv : 0 < vs.length) (h2 : kindAt l k 2 = false) :
  Calls Tryz.prog 83 #[.pointer (some ⟨r, 0, Option.none⟩)] w fun e w' => LnPost w0 w' g r A c l pv p (lineP nt l p vs k) e := by
 have HX : Box (lineP nt l p vs k = .error (fltAt l k 15)) := ⟨by unfold lineP; rw [ht, if_neg (by decide), if_neg (by omega), h2]; rfl⟩
 have HW := Lib.hid (rdWord_no (r := r) (pv := pv) (vv := vv) [118, 111, 105, 99, 101] h.str (Nat.le_of_lt hk) hr ht h.cel h.ne)
 have HNY := Lib.hid (fun W => need_yes r W)
 have HT := Lib.hid (fun W (h : RdS w0 W g r A c l k pv vv p vs) => rdTake_no (r := r) (pv := pv) (vv := vv) 2 h.str (Nat.le_of_lt hk) (by omega) hr hln h2 h.cel h.ne)
 have HR := Lib.hid h
 generalize lineP nt l p vs k = out at *
 obtain ⟨A9, c9, rfl, _, hcm, _⟩ := h.vso.shape
 have hvI : 0 < (vs.length : Int) := by omega
 clear h ht hr hln h2
 go_enter Tryz.func83, Tryz.ntmps83
 go_wp2_with fail
 refine HW.out.mono ?_
 rintro e w1 ⟨rfl, hs1, ho1⟩
 have HR1 := Lib.hid (HR.out.off hs1 ho1)
 obtain ⟨q0, q1, q2⟩ := cel3 HR1.out.cel
 clear hs1 ho1 HW HR
 go_wp2_with fail
 refine (HNY.out _).mono ?_
 rintro e w2 ⟨rfl, rfl⟩
 go_wp2_with fail
 refine (HT.out _ HR1.out).mono ?_
 rintro e w3 ⟨rfl, hs3, ho3⟩
 go_wp2_with fail
 exact ⟨rfl, LnPost.err HX.out (HR1.out.off hs3 ho3).low⟩
theorem own_off_ty {w : World} {base size n r : Nat} {T S : TypeId} {v : Value} {xs ys : List Value} (h : w.ownsRow base T size v n xs) (hc : Cells w r S ys) (hTS : T ≠ S) : some r ≠ v.ownBlock := fun e => hTS ((TyB.of_own h e.symm).one (TyB.of_cells hc))
theorem Str.kpt {E : List TypeId} {w w' : World} {g c k k' : Nat} {A : Option Addr} {l : List Tok} (h : Str w g A c l k) (hk : KpT E w.heap.size w w') (h1 : 92 ∉ E) (h2 : 3 ∉ E) (hs : Strm w' g (.slice A l.length c) k') : Str w' g A c l k' := by
 refine ⟨hs, ?_⟩
 obtain ⟨rvs, h3, h4, h5⟩ := h.toks
 exact ⟨rvs, h3, own_kpt h4 hk h1, fun k t rv a b => (h5 k t rv a b).keep fun b cur p hcur => hk.block b _ (Array.getElem?_eq_some_iff.1 hcur).1 ⟨cur, p, hcur⟩ h2⟩
theorem RdS.voice {w0 w : World} {g r c k : Nat} {A : Option Addr} {l : List Tok} {pv vv : Value} {p : List Int} {vs : List Vc} (h : RdS w0 w g r A c l k pv vv p vs) : ∃ xs, w.ownsRow w0.heap.size 48 2 vv vs.length xs ∧
  ∀ (o : Obj) (wB : World) (vv' : Value) (nm : List UInt8), (w.alloc o).grownBy wB vv.ownBlock → wB.ownsRow w0.heap.size 48 2 vv' (vs.length + 1) (xs ++ [.string ⟨nm.toArray⟩, .slice Option.none 0 0]) →
    Cells wB r 162 [.pointer (some ⟨g, 0, Option.none⟩), pv, vv] ∧ RdS w0 (wB.setCell ⟨r, 2, Option.none⟩ vv') g r A c l k pv vv' p (vs ++ [⟨nm, []⟩]) := by
 obtain ⟨xs, hown, hpush⟩ := h.vso.own
 refine ⟨xs, hown, fun o wB vv' nm hg ho => ?_⟩
 have hne := own_off_ty hown h.cel (by decide)
 have hneg := own_off_ty hown h.str.strm (by decide)
 have hcB := (h.cel.alloc o).grown hg hne
 have hk1 : KpT [48] w.heap.size w wB := (((KpT.refl [48] w.heap.size w).alloc (Nat.le_refl _) o)).grown (hown.alloc o) (by simp) hg
 have hk2 : KpT [48, 162] w.heap.size w (wB.setCell ⟨r, 2, Option.none⟩ vv') := ((((KpT.refl [48, 162] w.heap.size w).alloc (Nat.le_refl _) o)).grown (hown.alloc o) (by simp) hg).setCell (TyB.of_cells hcB) (by simp) _
 have hk3 : KpT [162] wB.heap.size wB (wB.setCell ⟨r, 2, Option.none⟩ vv') := (KpT.refl _ _ _).setCell (TyB.of_cells hcB) (by simp) _
 have hrg := h.ne
 refine ⟨hcB, h.str.kpt hk2 (by decide) (by decide) (((Cells.alloc h.str.strm o).grown hg hneg).far (p := ⟨r, 2, Option.none⟩) (by show g ≠ r; omega) _), hcB.set 2 _, own_kpt h.prs hk2 (by decide), (hpush wB vv' nm hk1 ho).kpt hk3 (by decide) (by decide) (by decide) (by decide), ?_, h.g0, h.r0, h.ne⟩
 exact ((h.low.alloc h.low.size o).grown hg (by have := h.low.size; simp; omega) (fun j hj => (hown.lt j hj).1)).setCell (p := ⟨r, 2, Option.none⟩) h.r0 _
set_option maxRecDepth 100000 in
set_option maxHeartbeats 8000000 in
theorem rdLine_voice {nt : List Int → Tok → List Int × Int} {w0 w : World} {g r c k : Nat} {A : Option Addr} {l : List Tok} {pv vv : Value} {p : List Int} {vs : List Vc} (h : RdS w0 w g r A c l k pv vv p vs) (hk : k < l.length) (hr : ∀ t ∈ l, t.row.length ≤ 1000) (hln : l.length ≤ 1000) (ht : textAt l k 1 [118, 111, 105, 99, 101] = true) (hvs : vs.length ≤ 1000) :
  Calls Tryz.prog 83 #[.pointer (some ⟨r, 0, Option.none⟩)] w fun e w' => LnPost w0 w' g r A c l pv p (lineP nt l p vs k) e := by
 obtain ⟨i0, hi0, hz0, hz1, hz2⟩ := info_parts Tryz.info_voice48
 have HW := Lib.hid (rdWord_yes (r := r) (pv := pv) (vv := vv) [118, 111, 105, 99, 101] h.str hr hln ht h.cel h.ne)
 have HR := Lib.hid h
 have HRR : Box (∀ t ∈ l, t.row.length ≤ 1000) := ⟨hr⟩
 have HX0 : Box (lineP nt l p vs k = match vcP l k with | .error e => .error e | .ok (j, v) => .ok (j, vs ++ [v])) := ⟨by unfold lineP; rw [ht, if_pos rfl]; rfl⟩
 generalize lineP nt l p vs k = out at *
 obtain ⟨A9, c9, rfl, _, hcm, _⟩ := h.vso.shape
 clear h ht hr
 go_enter Tryz.func83, Tryz.ntmps83
 go_wp2_with fail
 refine HW.out.mono ?_
 rintro e w1 ⟨rfl, hs1, ho1⟩
 have HR1 := Lib.hid (HR.out.off hs1 ho1)
 obtain ⟨q0, q1, q2⟩ := cel3 HR1.out.cel
 have hfd := tok_field1
 clear hs1 ho1 HW HR
 have hB : Below w1.heap.size w1 w1.drew := below_to_drew (Below.refl _ _)
 cases h1 : kindAt l (k + 1) 1 with
 | false =>
   have HX : Box (out = .error (fltAt l (k + 1) 15)) := ⟨by rw [HX0.out]; unfold vcP; rw [h1]; rfl⟩
   clear HX0
   have HT := Lib.hid (fun W (h : RdS w0 W g r A c l (k + 1) pv (.slice A9 vs.length c9) p vs) => rdTake_no (r := r) 1 h.str (by omega) (by omega) HRR.out hln h1 h.cel h.ne)
   go_wp2_with fail
   go_region_law (first
    | (go_simp; go_at_call 124; (with_reducible refine (HT.out _ (HR1.out.below hB)).mono ?_); rintro e wA ⟨rfl, hsA, hoA⟩; refine panic_done ⟨rfl, LnPost.err HX.out ((HR1.out.below hB).off hsA hoA).low⟩ Tryz.prog { tmps := #[], defers := [] } wA ?_)
    | fail)
   all_goals trivial
 | true =>
   obtain ⟨hk1, hq1⟩ := kindAt_yes h1
   have hta : tokAt l (k + 1) = l[k + 1]'hk1 := by unfold tokAt; rw [List.getElem?_eq_getElem hk1]; rfl
   have HX1 : Box (out = if kindAt l (k + 2) 6 then .ok (k + 3, vs ++ [⟨(l[k + 1]'hk1).text, []⟩]) else .error (fltAt l (k + 2) 15)) := ⟨by
    rw [HX0.out]
    unfold vcP
    rw [h1, if_pos rfl, hta]
    cases kindAt l (k + 2) 6 <;> rfl⟩
   have HT := Lib.hid (fun W (h : RdS w0 W g r A c l (k + 1) pv (.slice A9 vs.length c9) p vs) => rdTake_yes (r := r) 1 h.str hk1 HRR.out hln hq1 h.cel)
   clear HX0 hta h1
   generalize l[k + 1]'hk1 = t at *
   obtain ⟨k0, x0, n0, d0, ro, l0, o0⟩ := t
   dsimp only at *
   subst hq1
   go_wp2_with fail
   go_region_law (first
    | (refine step_append_lies _ (by rfl) _ _ _ (by rfl) w0.heap.size 48 i0 _ 2 40 Tryz.underlying27 hi0 hz0 hz1 hz2 rfl (by omega) _ vs.length xs (by rfl) (hown.alloc _) ⟨wA.heap.size, 0, Option.none⟩ 1 1 [.string ⟨x0.toArray⟩, .slice Option.none 0 0] (by rfl) (by rfl) (World.news_of_block (cs := #[.string ⟨x0.toArray⟩, .slice Option.none 0 0]) (t := 48) (fr := (0, 0)) (heap_alloc_new wA _)) (by simp [Value.oneCell']) (by omega) (by unfold maxLen; omega) (by omega) (by have := HRA.low.size; simp; omega) (wA.heap.size + 1) (by simp) ?_; intro gB cB wB hownB hgB hatB hltB; obtain ⟨hcB, HRB⟩ := hpush _ _ _ _ hgB hownB; have fB := hcB.free 2; obtain ⟨_, _, sB⟩ := cel3 hcB)
    | (go_simp; go_at_call 124; (with_reducible refine (HT.out _ (HR1.out.below hB)).mono ?_); rintro e wA ⟨⟨AT, cT, rfl, _⟩, hsA, hoA⟩; have HRA := (HR1.out.below hB).off hsA hoA; obtain ⟨u0, u1, u2⟩ := cel3 HRA.cel; obtain ⟨u3, u4, u5⟩ := cel3 (HRA.cel.alloc (.cells #[.string ⟨x0.toArray⟩, .slice Option.none 0 0] 48)); obtain ⟨xs, hown, hpush⟩ := HRA.voice))
   all_goals
    have HRC := Lib.hid HRB
    clear hB hcB HRB fB sB hown hpush HRA u0 u1 u2 u3 u4 u5 hownB hgB hatB hltB q0 q1 q2 hsA hoA HT HR1
    cases h6 : kindAt l (k + 2) 6 with
    | false =>
      rw [h6] at HX1
      go_wp2_with fail
      refine (rdTake_no (r := r) 6 HRC.out.str (by omega) (by omega) HRR.out hln h6 HRC.out.cel HRC.out.ne).mono ?_
      rintro e wD ⟨rfl, hsD, hoD⟩
      go_wp2_with fail
      exact ⟨rfl, LnPost.err HX1.out (HRC.out.off hsD hoD).low⟩
    | true =>
      rw [h6, if_pos rfl] at HX1
      obtain ⟨hk2, hq2⟩ := kindAt_yes h6
      go_wp2_with fail
      refine (rdTake_yes (r := r) 6 HRC.out.str hk2 HRR.out hln hq2 HRC.out.cel).mono ?_
      rintro e wD ⟨⟨AD, cD, rfl, _⟩, hsD, hoD⟩
      go_wp2_with fail
      refine bodyPost_ret (results_none rfl _ _ _) rfl ?_
      exact LnPost.ok HX1.out (by omega) (HRC.out.off hsD hoD)
end Go.Proofs.YtaaeekahhhookaaGreatDoor
