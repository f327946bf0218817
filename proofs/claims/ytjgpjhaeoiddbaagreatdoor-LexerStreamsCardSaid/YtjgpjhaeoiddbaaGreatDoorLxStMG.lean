/- LexerStreams: the walk. -/
import Derived.Test.YtjgpjhaeoiddbaaGreatDoorGN
import Derived.Test.YtjgpjhaeoiddbaaGreatDoorGP
import Derived.Test.YtjgpjhaeoiddbaaGreatDoorGW
import Derived.Test.YtjgpjhaeoiddbaaGreatDoorGX
namespace Go.Proofs.YtjgpjhaeoiddbaaGreatDoor
open Go.RowKit Go.Lib

set_option maxRecDepth 100000 in
set_option maxHeartbeats 16000000 in
theorem lxSt_main (v vc : Value) (l : List Tok) (cs : List SCall) (w : World) (hS : Std w) (hL : LenIs w) (hv : IsToks w w.heap.size v l) (hc : IsCalls w w.heap.size vc cs) (hf : ∀ c ∈ cs, c.Fits) (h10 : l.length ≤ 10) (hsh : shortB l = true) (h16 : cs.length ≤ 16) :
    Calls Tryz.prog 3 #[v, vc] w fun e w' => e = .returned (.bool true) ∧ Below w.heap.size w w' := by
  have HK := Lib.hid (fun W h1 h2 => known47 W h1 h2)
  have HS := Lib.hid hS
  have HLI : Hid (LenIs w) := Lib.hid hL
  have HV := Lib.hid hv
  have HC := Lib.hid hc
  have HF := Lib.hid hf
  have HSH := Lib.hid (fun W h => short_any v l W h)
  rw [hsh] at HSH
  have HR : Hid (∀ t ∈ l, t.row.length ≤ 1000) := Lib.hid (fun t ht => by have := (shortB_all hsh t ht).2.2.2; omega)
  have HO := Lib.hid (fun W h => open_any v l W h HR.out (by omega))
  have hni : (l.length : Int) ≤ 10 := by omega
  have hci : (cs.length : Int) ≤ 16 := by omega
  clear hS hL hsh hf
  obtain ⟨AX, cx, _, rfl, _⟩ := hv
  obtain ⟨AC, cc, rfl, _⟩ := hc
  go_enter Tryz.func3, Tryz.ntmps3
  go_wp2_with fail
  refine (HK.out _ HS.out HLI.out).mono ?_
  rintro e w1 ⟨rfl, hbw⟩
  go_wp2_with fail
  refine (HSH.out _ (HV.out.lift hbw)).mono ?_
  rintro e w2 ⟨rfl, hb⟩
  replace hbw := hbw.trans (hb.mono hbw.size)
  clear hb
  go_wp2_with fail
  refine (HO.out _ (HV.out.lift hbw)).mono ?_
  rintro e w3 ⟨⟨g, A, c, rfl, hg, hst⟩, hb⟩
  replace hg := Nat.le_trans hbw.size hg
  replace hbw := hbw.trans (hb.mono hbw.size)
  clear hb
  have HST := Lib.hid hst
  have HBW := Lib.hid hbw
  clear hst hbw HK HSH HO HS HLI
  go_wp2_with fail
  go_loopw [6, 44] (fun av iv wr => ∃ j k : Nat, j ≤ cs.length ∧ iv = .int .i64 j ∧ k ≤ l.length ∧ av = .int .i64 k ∧ Str wr g A c l k ∧ Below w.heap.size w wr) (fun _ iv _ => cs.length - (intOf iv).toNat)
  case atStart => exact ⟨0, 0, Nat.zero_le _, rfl, Nat.zero_le _, rfl, HST.out, HBW.out⟩
  case round =>
    clear HST HBW
    obtain ⟨j, k, hj, rfl, hk, rfl, hst, hbw⟩ := hrel
    by_cases hjl : j < cs.length
    · obtain ⟨bc, oc, rfl, hbc, hcc⟩ := (HC.out.lift hbw).at_ hjl
      have hft := HF.out _ (List.getElem_mem hjl)
      generalize cs[j]'hjl = ca at *
      obtain ⟨m, q, tx⟩ := ca
      have q0 := hcc 0 (by omega)
      have q1 := hcc 1 (by omega)
      have q2 := hcc 2 (by omega)
      simp only [callVals, List.getElem?_cons_succ, List.getElem?_cons_zero, Nat.add_zero] at q0 q1 q2
      have hm8 : (m : Int) % 8 = 0 ∨ (m : Int) % 8 = 1 ∨ (m : Int) % 8 = 2 ∨ (m : Int) % 8 = 3 ∨ (m : Int) % 8 = 4 ∨ (m : Int) % 8 = 5 ∨ (m : Int) % 8 = 6 ∨ (m : Int) % 8 = 7 := by omega
      have hft1 := hft.1
      have hft2 := hft.2.1
      have hft3 := hft.2.2.1
      clear hft hcc
      dsimp only at hft1 hft2 hft3
      by_cases hkl : k < l.length
      · obtain ⟨b1, o1, r1, e1, hlb, hr1, hc1⟩ := HV.out.at_ hkl
        subst e1
        generalize hT : l[k]'hkl = t at *
        obtain ⟨A1, C1, e1, _⟩ := id hr1
        subst e1
        obtain ⟨k0, x0, n0, d0, r0, l0, o0⟩ := t
        have hgw : g < wr.heap.size := Cells.lt hst.strm
        obtain ⟨W1, hW1⟩ : ∃ W1, W1 = (wr.alloc (.cells #[.int .u8 m, .int .i64 q, .string ⟨tx.toArray⟩] 29)).alloc (.cells #[.int .i64 0, .string ⟨#[]⟩, .string ⟨#[]⟩, .string ⟨#[]⟩, .slice Option.none 0 0, .int .i64 0, .int .i64 0] 38) := ⟨_, rfl⟩
        have hb1 : Below wr.heap.size wr W1 := by rw [hW1]; exact ((Below.refl _ _).alloc (Nat.le_refl _) _).alloc (by simp) _
        have HCL : Hid (Cells W1 wr.heap.size 29 [.int .u8 m, .int .i64 q, .string ⟨tx.toArray⟩]) := Lib.hid (by rw [hW1]; exact (Cells.new wr 29 #[.int .u8 m, .int .i64 q, .string ⟨tx.toArray⟩]).alloc _)
        have HX1 : Hid (Cells W1 (wr.heap.size + 1) 38 [.int .i64 0, .string ⟨#[]⟩, .string ⟨#[]⟩, .string ⟨#[]⟩, .slice Option.none 0 0, .int .i64 0, .int .i64 0]) := Lib.hid (by rw [hW1]; have h := Cells.new (wr.alloc (.cells #[.int .u8 m, .int .i64 q, .string ⟨tx.toArray⟩] 29)) 38 #[.int .i64 0, .string ⟨#[]⟩, .string ⟨#[]⟩, .string ⟨#[]⟩, .slice Option.none 0 0, .int .i64 0, .int .i64 0]; rw [World.size_alloc] at h; exact h)
        have HSt1 := Lib.hid (hst.below hb1)
        have HBW1 := Lib.hid (hbw.trans (hb1.mono hbw.size))
        have hsz1 : W1.heap.size = wr.heap.size + 2 := by rw [hW1]; simp
        have p0 := keep_cell (hc1 0 (by omega)) HBW1.out
        have p1 := keep_cell (hc1 1 (by omega)) HBW1.out
        have p2 := keep_cell (hc1 2 (by omega)) HBW1.out
        have p3 := keep_cell (hc1 3 (by omega)) HBW1.out
        have p4 := keep_cell (hc1 4 (by omega)) HBW1.out
        have p5 := keep_cell (hc1 5 (by omega)) HBW1.out
        have p6 := keep_cell (hc1 6 (by omega)) HBW1.out
        simp only [Nat.add_zero] at p0
        dsimp only at *
        have HRW := Lib.hid hr1
        have hki : (k : Int) < (l.length : Int) := by omega
        have hmin : min ((k : Int) + 1) (l.length : Int) = (k : Int) + 1 := by omega
        have hk0 : (0 : Int) ≤ (k : Int) := by omega
        have HSR := Lib.hid hst
        have HB1R := Lib.hid hb1
        clear hr1 hbw hst hc1 hb1 hlb
        go_upto_region 11 with (fail)
        rw [← hW1]
        clear hW1
        obtain ⟨_, z0, z1, z2, z3, z4, z5, z6⟩ := cells7 HX1.out
        go_upto_region 12 with (fail)
        clear p0 p1 p2 p3 p4 p5 p6 z0 z1 z2 z3 z4 z5 z6
        have HCl : Hid (Cells (((((((W1.setCell ⟨wr.heap.size + 1, 0, Option.none⟩ (.int .i64 k0)).setCell ⟨wr.heap.size + 1, 1, Option.none⟩ (.string ⟨x0.toArray⟩)).setCell ⟨wr.heap.size + 1, 2, Option.none⟩ (.string ⟨n0.toArray⟩)).setCell ⟨wr.heap.size + 1, 3, Option.none⟩ (.string ⟨d0.toArray⟩)).setCell ⟨wr.heap.size + 1, 4, Option.none⟩ (.slice A1 r0.length C1)).setCell ⟨wr.heap.size + 1, 5, Option.none⟩ (.int .i64 l0)).setCell ⟨wr.heap.size + 1, 6, Option.none⟩ (.int .i64 o0)) wr.heap.size 29 _) := Lib.hid (Cells.far7 HCL.out (by omega) _ _ _ _ _ _ _)
        have HX : Hid (Cells _ (wr.heap.size + 1) 38 _) := Lib.hid (HX1.out.store7 (.int .i64 k0) (.string ⟨x0.toArray⟩) (.string ⟨n0.toArray⟩) (.string ⟨d0.toArray⟩) (.slice A1 r0.length C1) (.int .i64 l0) (.int .i64 o0))
        have hoff := (Off.refl wr.heap.size g W1).store7 (b := wr.heap.size + 1) (by omega) (.int .i64 k0) (.string ⟨x0.toArray⟩) (.string ⟨n0.toArray⟩) (.string ⟨d0.toArray⟩) (.slice A1 r0.length C1) (.int .i64 l0) (.int .i64 o0)
        have HBW := Lib.hid (HBW1.out.trans (hoff.base (by have := HBW1.out.size; omega) hg))
        have HSt : Hid (Str _ g A c l k) := Lib.hid (HSR.out.off ((Off.of_below HB1R.out).trans hoff) (Cells.far7 HSt1.out.strm (by omega) (.int .i64 k0) (.string ⟨x0.toArray⟩) (.string ⟨n0.toArray⟩) (.string ⟨d0.toArray⟩) (.slice A1 r0.length C1) (.int .i64 l0) (.int .i64 o0)))
        generalize (((((((W1.setCell ⟨wr.heap.size + 1, 0, Option.none⟩ (.int .i64 k0)).setCell ⟨wr.heap.size + 1, 1, Option.none⟩ (.string ⟨x0.toArray⟩)).setCell ⟨wr.heap.size + 1, 2, Option.none⟩ (.string ⟨n0.toArray⟩)).setCell ⟨wr.heap.size + 1, 3, Option.none⟩ (.string ⟨d0.toArray⟩)).setCell ⟨wr.heap.size + 1, 4, Option.none⟩ (.slice A1 r0.length C1)).setCell ⟨wr.heap.size + 1, 5, Option.none⟩ (.int .i64 l0)).setCell ⟨wr.heap.size + 1, 6, Option.none⟩ (.int .i64 o0)) = W at *
        have hsz2 : wr.heap.size + 1 < W.heap.size := HX.out.lt
        have g0 := HCl.out.cell 0
        have g1 := HCl.out.cell 1
        have g2 := HCl.out.cell 2
        simp only [List.getElem?_cons_succ, List.getElem?_cons_zero] at g0 g1 g2
        obtain ⟨⟨a0, a1, a2, a3, a4, a5, a6⟩, _⟩ := cells7 (show Cells W (wr.heap.size + 1) 38 [.int .i64 k0, .string ⟨x0.toArray⟩, .string ⟨n0.toArray⟩, .string ⟨d0.toArray⟩, .slice A1 r0.length C1, .int .i64 l0, .int .i64 o0] from HX.out)
        clear HCL HX1 HSt1 HBW1 HSR HB1R hoff hsz1
        rcases hm8 with h8 | h8 | h8 | h8 | h8 | h8 | h8 | h8
        · as_aux_lemma =>
            have hn := next_yes HSt.out hkl HR.out (by omega)
            rw [hT] at hn
            have HN := Lib.hid hn
            clear hn
            go_wp2_with fail
            refine HN.out.mono ?_
            rintro e w5 ⟨⟨A5, c5, rfl, ht5⟩, hs5, ho5⟩
            clear HN a0 a1 a2 a3 a4 a5 a6 g0 g1 g2
            have hsz5 := ho5.size
            have hba5 : Below w5.heap.size w5 (w5.alloc (.cells #[.int .i64 k0, .string ⟨x0.toArray⟩, .string ⟨n0.toArray⟩, .string ⟨d0.toArray⟩, .slice A5 r0.length c5, .int .i64 l0, .int .i64 o0] 38)) := (Below.refl _ _).alloc (Nat.le_refl _) _
            have HY := Lib.hid ((ho5.cells HX.out HX.out.lt (by omega)).below hba5 (by omega))
            have HXX := Lib.hid (Cells.new w5 38 #[.int .i64 k0, .string ⟨x0.toArray⟩, .string ⟨n0.toArray⟩, .string ⟨d0.toArray⟩, .slice A5 r0.length c5, .int .i64 l0, .int .i64 o0])
            have HS5 := Lib.hid (hs5.below hba5)
            have hb5 := HBW.out.trans (ho5.base (by have := HBW.out.size; omega) hg)
            have HB5 := Lib.hid (hb5.trans (hba5.mono hb5.size))
            have HE := Lib.hid (lawEqual_any ⟨k0, x0, n0, d0, r0, l0, o0⟩ ⟨k0, x0, n0, d0, r0, l0, o0⟩ _ _ _ (ht5.below hba5).isRow ((HRW.out.keep HB5.out).up HB5.out.size))
            rw [tokEq_self] at HE
            obtain ⟨⟨a0, a1, a2, a3, a4, a5, a6⟩, _⟩ := cells7 (show Cells _ _ 38 [_, _, _, _, _, _, _] from HY.out)
            obtain ⟨⟨s0, s1, s2, s3, s4, s5, s6⟩, _⟩ := cells7 (show Cells _ _ 38 [_, _, _, _, _, _, _] from HXX.out)
            clear hs5 ho5 hba5 hb5 ht5 HX HBW HSt
            go_wp2_with fail
            refine HE.out.mono ?_
            rintro e w6 ⟨rfl, hb6⟩
            clear a0 a1 a2 a3 a4 a5 a6 s0 s1 s2 s3 s4 s5 s6 HE
            have hY6 := HY.out.below hb6 HY.out.lt
            have hX6 := HXX.out.below hb6 HXX.out.lt
            have a5 := hY6.cell 5
            have a6 := hY6.cell 6
            have s5 := hX6.cell 5
            have s6 := hX6.cell 6
            simp only [List.getElem?_cons_succ, List.getElem?_cons_zero] at a5 a6 s5 s6
            have HS6 := Lib.hid (HS5.out.below hb6)
            have HB6 := Lib.hid (HB5.out.trans (hb6.mono HB5.out.size))
            clear hb6 hY6 hX6 HS5 HB5 HY HXX
            go_wp2_with fail
            go_roundw
            case rel => exact ⟨j + 1, k + 1, by omega, by go_num, by omega, by go_num, HS6.out, HB6.out⟩
            case measure => simp [intOf]; omega
        · as_aux_lemma =>
            have hn := peek_yes HSt.out hkl HR.out
            rw [hT] at hn
            have HN := Lib.hid hn
            clear hn
            go_wp2_with fail
            refine HN.out.mono ?_
            rintro e w5 ⟨⟨A5, c5, rfl, ht5⟩, hs5, ho5⟩
            clear HN a0 a1 a2 a3 a4 a5 a6 g0 g1 g2
            have hsz5 := ho5.size
            have hba5 : Below w5.heap.size w5 (w5.alloc (.cells #[.int .i64 k0, .string ⟨x0.toArray⟩, .string ⟨n0.toArray⟩, .string ⟨d0.toArray⟩, .slice A5 r0.length c5, .int .i64 l0, .int .i64 o0] 38)) := (Below.refl _ _).alloc (Nat.le_refl _) _
            have HY := Lib.hid ((ho5.cells HX.out HX.out.lt (by omega)).below hba5 (by omega))
            have HXX := Lib.hid (Cells.new w5 38 #[.int .i64 k0, .string ⟨x0.toArray⟩, .string ⟨n0.toArray⟩, .string ⟨d0.toArray⟩, .slice A5 r0.length c5, .int .i64 l0, .int .i64 o0])
            have HS5 := Lib.hid (hs5.below hba5)
            have hb5 := HBW.out.trans (ho5.base (by have := HBW.out.size; omega) hg)
            have HB5 := Lib.hid (hb5.trans (hba5.mono hb5.size))
            have HE := Lib.hid (lawEqual_any ⟨k0, x0, n0, d0, r0, l0, o0⟩ ⟨k0, x0, n0, d0, r0, l0, o0⟩ _ _ _ (ht5.below hba5).isRow ((HRW.out.keep HB5.out).up HB5.out.size))
            rw [tokEq_self] at HE
            obtain ⟨⟨a0, a1, a2, a3, a4, a5, a6⟩, _⟩ := cells7 (show Cells _ _ 38 [_, _, _, _, _, _, _] from HY.out)
            obtain ⟨⟨s0, s1, s2, s3, s4, s5, s6⟩, _⟩ := cells7 (show Cells _ _ 38 [_, _, _, _, _, _, _] from HXX.out)
            clear hs5 ho5 hba5 hb5 ht5 HX HBW HSt
            go_wp2_with fail
            refine HE.out.mono ?_
            rintro e w6 ⟨rfl, hb6⟩
            clear a0 a1 a2 a3 a4 a5 a6 s0 s1 s2 s3 s4 s5 s6 HE
            have hY6 := HY.out.below hb6 HY.out.lt
            have hX6 := HXX.out.below hb6 HXX.out.lt
            have a5 := hY6.cell 5
            have a6 := hY6.cell 6
            have s5 := hX6.cell 5
            have s6 := hX6.cell 6
            simp only [List.getElem?_cons_succ, List.getElem?_cons_zero] at a5 a6 s5 s6
            have HS6 := Lib.hid (HS5.out.below hb6)
            have HB6 := Lib.hid (HB5.out.trans (hb6.mono HB5.out.size))
            clear hb6 hY6 hX6 HS5 HB5 HY HXX
            go_wp2_with fail
            go_roundw
            case rel => exact ⟨j + 1, k, by omega, by go_num, by omega, rfl, HS6.out, HB6.out⟩
            case measure => simp [intOf]; omega
        · by_cases hkq : k0 = q
          · subst hkq
            as_aux_lemma =>
              have hn := take_yes k0 HSt.out hkl HR.out (by omega) (by rw [hT])
              rw [hT] at hn
              have HN := Lib.hid hn
              clear hn
              go_wp2_with fail
              refine HN.out.mono ?_
              rintro e w5 ⟨⟨A5, c5, rfl, ht5⟩, hs5, ho5⟩
              clear HN a0 a1 a2 a3 a4 a5 a6 g0 g1 g2
              have hsz5 := ho5.size
              have hba5 : Below w5.heap.size w5 (w5.alloc (.cells #[.int .i64 k0, .string ⟨x0.toArray⟩, .string ⟨n0.toArray⟩, .string ⟨d0.toArray⟩, .slice A5 r0.length c5, .int .i64 l0, .int .i64 o0] 38)) := (Below.refl _ _).alloc (Nat.le_refl _) _
              have HY := Lib.hid ((ho5.cells HX.out HX.out.lt (by omega)).below hba5 (by omega))
              have HXX := Lib.hid (Cells.new w5 38 #[.int .i64 k0, .string ⟨x0.toArray⟩, .string ⟨n0.toArray⟩, .string ⟨d0.toArray⟩, .slice A5 r0.length c5, .int .i64 l0, .int .i64 o0])
              have HS5 := Lib.hid (hs5.below hba5)
              have hb5 := HBW.out.trans (ho5.base (by have := HBW.out.size; omega) hg)
              have HB5 := Lib.hid (hb5.trans (hba5.mono hb5.size))
              have HE := Lib.hid (lawEqual_any ⟨k0, x0, n0, d0, r0, l0, o0⟩ ⟨k0, x0, n0, d0, r0, l0, o0⟩ _ _ _ (ht5.below hba5).isRow ((HRW.out.keep HB5.out).up HB5.out.size))
              rw [tokEq_self] at HE
              obtain ⟨⟨a0, a1, a2, a3, a4, a5, a6⟩, _⟩ := cells7 (show Cells _ _ 38 [_, _, _, _, _, _, _] from HY.out)
              obtain ⟨⟨s0, s1, s2, s3, s4, s5, s6⟩, _⟩ := cells7 (show Cells _ _ 38 [_, _, _, _, _, _, _] from HXX.out)
              clear hs5 ho5 hba5 hb5 ht5 HX HBW HSt
              go_wp2_with fail
              refine HE.out.mono ?_
              rintro e w6 ⟨rfl, hb6⟩
              clear a0 a1 a2 a3 a4 a5 a6 s0 s1 s2 s3 s4 s5 s6 HE
              have hY6 := HY.out.below hb6 HY.out.lt
              have hX6 := HXX.out.below hb6 HXX.out.lt
              have a5 := hY6.cell 5
              have a6 := hY6.cell 6
              have s5 := hX6.cell 5
              have s6 := hX6.cell 6
              simp only [List.getElem?_cons_succ, List.getElem?_cons_zero] at a5 a6 s5 s6
              have HS6 := Lib.hid (HS5.out.below hb6)
              have HB6 := Lib.hid (HB5.out.trans (hb6.mono HB5.out.size))
              clear hb6 hY6 hX6 HS5 HB5 HY HXX
              go_wp2_with fail
              go_roundw
              case rel => exact ⟨j + 1, k + 1, by omega, by go_num, by omega, by go_num, HS6.out, HB6.out⟩
              case measure => simp [intOf]; omega
          · have hkqb : (k0 == q) = false := by simpa using hkq
            as_aux_lemma =>
              have HN := Lib.hid (take_no q HSt.out HR.out (.inr ⟨hkl, by rw [hT]; exact hkq⟩))
              unfold tokZA at HN
              go_wp2_with fail
              refine HN.out.mono ?_
              rintro e w5 ⟨rfl, hs5, ho5⟩
              clear HN a0 a1 a2 a3 a4 a5 a6 g0 g1 g2
              have hba5 : Below w5.heap.size w5 (w5.alloc (.cells #[.int .i64 0, .string ⟨#[]⟩, .string ⟨#[]⟩, .string ⟨#[]⟩, .slice Option.none 0 0, .int .i64 0, .int .i64 0] 38)) := (Below.refl _ _).alloc (Nat.le_refl _) _
              have HXX := Lib.hid (Cells.new w5 38 #[.int .i64 0, .string ⟨#[]⟩, .string ⟨#[]⟩, .string ⟨#[]⟩, .slice Option.none 0 0, .int .i64 0, .int .i64 0])
              have HS5 := Lib.hid (hs5.below hba5)
              have hb5 := HBW.out.trans (ho5.base (by have := HBW.out.size; omega) hg)
              have HB5 := Lib.hid (hb5.trans (hba5.mono hb5.size))
              have HE := Lib.hid (fun W => empty_zero W)
              unfold tokZA at HE
              obtain ⟨⟨s0, s1, s2, s3, s4, s5, s6⟩, _⟩ := cells7 (show Cells _ _ 38 [_, _, _, _, _, _, _] from HXX.out)
              clear hs5 ho5 hba5 hb5 HX HBW HSt
              go_wp2_with fail
              refine (HE.out _).mono ?_
              rintro e w6 ⟨rfl, hb6⟩
              clear s0 s1 s2 s3 s4 s5 s6 HE
              have HS6 := Lib.hid (HS5.out.below hb6)
              have HB6 := Lib.hid (HB5.out.trans (hb6.mono HB5.out.size))
              clear hb6 HS5 HB5 HXX
              go_wp2_with fail
              go_roundw
              case rel => exact ⟨j + 1, k, by omega, by go_num, by omega, rfl, HS6.out, HB6.out⟩
              case measure => simp [intOf]; omega
        · by_cases hk1 : k0 = 1
          · subst hk1
            by_cases hx : x0 = tx
            · subst hx
              as_aux_lemma =>
                have HN := Lib.hid (accept_ok _ HSt.out hkl HR.out (by omega) (by rw [hT]; exact .inl rfl) (by rw [hT]))
                go_wp2_with fail
                refine HN.out.mono ?_
                rintro e w5 ⟨rfl, hs5, ho5⟩
                clear HN a0 a1 a2 a3 a4 a5 a6 g0 g1 g2
                have HB5 := Lib.hid (HBW.out.trans (ho5.base (by have := HBW.out.size; omega) hg))
                have HS5 := Lib.hid hs5
                clear hs5 ho5 HX HBW HSt
                go_wp2_with fail
                go_roundw
                case rel => exact ⟨j + 1, k + 1, by omega, by go_num, by omega, by go_num, HS5.out, HB5.out⟩
                case measure => simp [intOf]; omega
            · have hxb : (x0 == tx) = false := by simpa using hx
              as_aux_lemma =>
                have HN := Lib.hid (accept_no tx HSt.out HR.out (.inr ⟨hkl, .inr (by rw [hT]; exact hx)⟩))
                go_wp2_with fail
                refine HN.out.mono ?_
                rintro e w5 ⟨rfl, hs5, ho5⟩
                clear HN a0 a1 a2 a3 a4 a5 a6 g0 g1 g2
                have HB5 := Lib.hid (HBW.out.trans (ho5.base (by have := HBW.out.size; omega) hg))
                have HS5 := Lib.hid hs5
                clear hs5 ho5 HX HBW HSt
                go_wp2_with fail
                go_roundw
                case rel => exact ⟨j + 1, k, by omega, by go_num, by omega, rfl, HS5.out, HB5.out⟩
                case measure => simp [intOf]; omega
          by_cases hk5 : k0 = 5
          · subst hk5
            by_cases hx : x0 = tx
            · subst hx
              as_aux_lemma =>
                have HN := Lib.hid (accept_ok _ HSt.out hkl HR.out (by omega) (by rw [hT]; exact .inr rfl) (by rw [hT]))
                go_wp2_with fail
                refine HN.out.mono ?_
                rintro e w5 ⟨rfl, hs5, ho5⟩
                clear HN a0 a1 a2 a3 a4 a5 a6 g0 g1 g2
                have HB5 := Lib.hid (HBW.out.trans (ho5.base (by have := HBW.out.size; omega) hg))
                have HS5 := Lib.hid hs5
                clear hs5 ho5 HX HBW HSt
                go_wp2_with fail
                go_roundw
                case rel => exact ⟨j + 1, k + 1, by omega, by go_num, by omega, by go_num, HS5.out, HB5.out⟩
                case measure => simp [intOf]; omega
            · have hxb : (x0 == tx) = false := by simpa using hx
              as_aux_lemma =>
                have HN := Lib.hid (accept_no tx HSt.out HR.out (.inr ⟨hkl, .inr (by rw [hT]; exact hx)⟩))
                go_wp2_with fail
                refine HN.out.mono ?_
                rintro e w5 ⟨rfl, hs5, ho5⟩
                clear HN a0 a1 a2 a3 a4 a5 a6 g0 g1 g2
                have HB5 := Lib.hid (HBW.out.trans (ho5.base (by have := HBW.out.size; omega) hg))
                have HS5 := Lib.hid hs5
                clear hs5 ho5 HX HBW HSt
                go_wp2_with fail
                go_roundw
                case rel => exact ⟨j + 1, k, by omega, by go_num, by omega, rfl, HS5.out, HB5.out⟩
                case measure => simp [intOf]; omega
          have hk1b : (k0 == 1) = false := by simpa using hk1
          have hk5b : (k0 == 5) = false := by simpa using hk5
          as_aux_lemma =>
            have HN := Lib.hid (accept_no tx HSt.out HR.out (.inr ⟨hkl, .inl (by rw [hT]; exact ⟨hk1, hk5⟩)⟩))
            go_wp2_with fail
            refine HN.out.mono ?_
            rintro e w5 ⟨rfl, hs5, ho5⟩
            clear HN a0 a1 a2 a3 a4 a5 a6 g0 g1 g2
            have HB5 := Lib.hid (HBW.out.trans (ho5.base (by have := HBW.out.size; omega) hg))
            have HS5 := Lib.hid hs5
            clear hs5 ho5 HX HBW HSt
            go_wp2_with fail
            go_roundw
            case rel => exact ⟨j + 1, k, by omega, by go_num, by omega, rfl, HS5.out, HB5.out⟩
            case measure => simp [intOf]; omega
        · have hv4 := ((HV.out.keep HBW.out).up HBW.out.size).drop (k := k) (by omega)
          have HI := Lib.hid (index_end _ _ W hv4)
          have hsk3 := fun W3 (h : Str W3 g A c l k) => skip_any h (by omega) HR.out (by omega)
          have hsk := idx_skip (l.drop k) 0
          have hdl : (l.drop k).length = l.length - k := List.length_drop
          generalize idxF endB 0 (l.drop k) = ix at *
          have hle := skipN_le (l.drop k)
          rw [hdl] at hle
          generalize skipN (l.drop k) = N at *
          clear hv4
          rcases hsk with ⟨rfl, hN⟩ | ⟨i, hix, rfl⟩
          · as_aux_lemma =>
              have HN := Lib.hid hN
              have hNb : ((N : Int) != (l.length : Int) - (k : Int)) = false := by simp; omega
              have HSK := Lib.hid hsk3
              clear hsk3 hdl hN
              go_wp2_with fail
              refine HI.out.mono ?_
              rintro e w5 ⟨rfl, hb5⟩
              clear HI
              have hs5 := HSt.out.below hb5
              have hbw5 := HBW.out.trans (hb5.mono HBW.out.size)
              have HS5 := Lib.hid hs5
              have HB5 := Lib.hid hbw5
              clear hs5 hbw5 hb5 HX HBW HSt a0 a1 a2 a3 a4 a5 a6 g0 g1 g2
              go_wp2_with fail
              refine (HSK.out _ HS5.out).mono ?_
              rintro e w6 ⟨rfl, hs6, ho6⟩
              have HS6 := Lib.hid hs6
              have HB6 := Lib.hid (HB5.out.trans (ho6.base (by have := HB5.out.size; omega) hg))
              clear hs6 ho6 HS5 HB5
              go_wp2_with fail
              go_roundw
              case rel => exact ⟨j + 1, k + N, by omega, by go_num, by have := HN.out; have := List.length_drop (i := k) (l := l); omega, by have := HN.out; have := List.length_drop (i := k) (l := l); congr 1 <;> omega, HS6.out, HB6.out⟩
              case measure => simp [intOf]; omega
          · as_aux_lemma =>
              rw [Nat.zero_add] at hix
              subst hix
              have hi0 : ((i : Int) + 1 == 0) = false := by rw [beq_eq_false_iff_ne]; omega
              have hil : (i : Int) ≤ 1000 := by omega
              push_cast at hsk3
              have HSK := Lib.hid hsk3
              clear hsk3 hdl
              go_wp2_with fail
              refine HI.out.mono ?_
              rintro e w5 ⟨rfl, hb5⟩
              clear HI
              have hs5 := HSt.out.below hb5
              have hbw5 := HBW.out.trans (hb5.mono HBW.out.size)
              have HS5 := Lib.hid hs5
              have HB5 := Lib.hid hbw5
              clear hs5 hbw5 hb5 HX HBW HSt a0 a1 a2 a3 a4 a5 a6 g0 g1 g2
              go_wp2_with fail
              refine (HSK.out _ HS5.out).mono ?_
              rintro e w6 ⟨rfl, hs6, ho6⟩
              have HS6 := Lib.hid hs6
              have HB6 := Lib.hid (HB5.out.trans (ho6.base (by have := HB5.out.size; omega) hg))
              clear hs6 ho6 HS5 HB5
              go_wp2_with fail
              go_roundw
              case rel => exact ⟨j + 1, k + (i + 1), by omega, by go_num, by omega, by congr 1 <;> omega, HS6.out, HB6.out⟩
              case measure => simp [intOf]; omega
        · as_aux_lemma =>
            have hba := (Below.refl W.heap.size W).alloc (Nat.le_refl _) (.cells #[.int .i64 l0, .int .i64 o0] 36)
            have hN2 := Cells.new W 36 #[.int .i64 l0, .int .i64 o0]
            have hs2 := HSt.out.below hba
            have hbw2 := HBW.out.trans (hba.mono HBW.out.size)
            go_upto_region 51 with (fail)
            obtain ⟨W2, hW2⟩ : ∃ W2, W2 = W.alloc (.cells #[.int .i64 l0, .int .i64 o0] 36) := ⟨_, rfl⟩
            rw [← hW2] at hN2 hs2 hbw2 ⊢
            clear hW2 hba
            have HP2 : Hid (Cells W2 W.heap.size 36 [.int .i64 l0, .int .i64 o0]) := Lib.hid hN2
            have HSt2 := Lib.hid hs2
            have HBW2 := Lib.hid hbw2
            clear hN2 hs2 hbw2
            have hPd := HP2.out
            have pl0 := hPd.cell 0
            have pl1 := hPd.cell 1
            simp only [List.getElem?_cons_succ, List.getElem?_cons_zero] at pl0 pl1
            have HS2 := Lib.hid (HSt2.out.below (below_to_drew (Below.refl W2.heap.size W2)))
            have HP3 : Hid (Cells W2.drew _ 36 _) := Lib.hid hPd.drew
            have hA := fun W3 (h : Str W3 g A c l k) => at_place h (by omega) (by omega) hkl (by omega)
            simp only [hT] at hA
            have HA := Lib.hid hA
            clear hA
            clear hPd HX HSt HBW a0 a1 a2 a3 a4 a5 a6 g0 g1 g2
            go_region_held3 (fun w' => w'.cell? ⟨W.heap.size, 0, Option.none⟩ = some (.int .i64 l0) ∧ w'.cell? ⟨W.heap.size, 1, Option.none⟩ = some (.int .i64 o0)) (first | exact ⟨pl0, pl1⟩ | go_keep | exact ⟨hP5.cell 0, hP5.cell 1⟩)
              ((go_at_call 24; refine (HA.out _ HS2.out).mono ?_; rintro e w5 ⟨rfl, hs5, hb5⟩; have hP5 := HP3.out.below hb5 HP3.out.lt))
            have HS5 := Lib.hid hs5
            have HB5 := Lib.hid ((below_to_drew HBW2.out).trans (hb5.mono HBW2.out.size))
            clear hs5 hb5 hP5 pl0 pl1
            go_wp2_with fail
            go_roundw
            case rel => exact ⟨j + 1, k, by omega, by go_num, by omega, rfl, HS5.out, HB5.out⟩
            case measure => simp [intOf]; omega
        · as_aux_lemma =>
            have HN := Lib.hid (mark_yes HSt.out)
            go_wp2_with fail
            refine HN.out.mono ?_
            rintro e w5 ⟨rfl, hs5, ho5⟩
            clear HN a0 a1 a2 a3 a4 a5 a6 g0 g1 g2
            have HB5 := Lib.hid (HBW.out.trans (ho5.base (by have := HBW.out.size; omega) hg))
            have HS5 := Lib.hid hs5
            clear hs5 ho5 HX HBW HSt
            go_wp2_with fail
            go_roundw
            case rel => exact ⟨j + 1, k, by omega, by go_num, by omega, rfl, HS5.out, HB5.out⟩
            case measure => simp [intOf]; omega
        · by_cases hq0 : q < 0
          · have hq1 : ¬ 0 ≤ q := by omega
            as_aux_lemma =>
              have HN := Lib.hid (back_bad q HSt.out (.inl hq0))
              go_wp2_with fail
              refine HN.out.mono ?_
              rintro e w5 ⟨rfl, hs5, ho5⟩
              clear HN a0 a1 a2 a3 a4 a5 a6 g0 g1 g2
              have HB5 := Lib.hid (HBW.out.trans (ho5.base (by have := HBW.out.size; omega) hg))
              have HS5 := Lib.hid hs5
              clear hs5 ho5 HX HBW HSt
              go_wp2_with fail
              go_roundw
              case rel => exact ⟨j + 1, k, by omega, by go_num, by omega, rfl, HS5.out, HB5.out⟩
              case measure => simp [intOf]; omega
          by_cases hqk : (k : Int) < q
          · have hq1 : 0 ≤ q := by omega
            have hq2 : ¬ q ≤ (k : Int) := by omega
            as_aux_lemma =>
              have HN := Lib.hid (back_bad q HSt.out (.inr hqk))
              go_wp2_with fail
              refine HN.out.mono ?_
              rintro e w5 ⟨rfl, hs5, ho5⟩
              clear HN a0 a1 a2 a3 a4 a5 a6 g0 g1 g2
              have HB5 := Lib.hid (HBW.out.trans (ho5.base (by have := HBW.out.size; omega) hg))
              have HS5 := Lib.hid hs5
              clear hs5 ho5 HX HBW HSt
              go_wp2_with fail
              go_roundw
              case rel => exact ⟨j + 1, k, by omega, by go_num, by omega, rfl, HS5.out, HB5.out⟩
              case measure => simp [intOf]; omega
          obtain ⟨n, rfl⟩ : ∃ n : Nat, q = n := ⟨q.toNat, by omega⟩
          have hq1 : (0 : Int) ≤ (n : Int) := by omega
          have hq2 : (n : Int) ≤ (k : Int) := by omega
          as_aux_lemma =>
            have HN := Lib.hid (back_good n HSt.out (by omega))
            go_wp2_with fail
            refine HN.out.mono ?_
            rintro e w5 ⟨rfl, hs5, ho5⟩
            clear HN a0 a1 a2 a3 a4 a5 a6 g0 g1 g2
            have hC5 := (ho5.cells HCl.out (by omega) (by omega)).cell 1
            simp only [List.getElem?_cons_succ, List.getElem?_cons_zero] at hC5
            have HB5 := Lib.hid (HBW.out.trans (ho5.base (by have := HBW.out.size; omega) hg))
            have HS5 := Lib.hid hs5
            clear hs5 ho5 HX HBW HSt
            go_wp2_with fail
            go_roundw
            case rel => exact ⟨j + 1, n, by omega, by go_num, by omega, rfl, HS5.out, HB5.out⟩
            case measure => simp [intOf]; omega
      · obtain rfl : k = l.length := by omega
        have hke : l.length = l.length := rfl
        have hgw : g < wr.heap.size := Cells.lt hst.strm
        obtain ⟨W1, hW1⟩ : ∃ W1, W1 = (wr.alloc (.cells #[.int .u8 m, .int .i64 q, .string ⟨tx.toArray⟩] 29)).alloc (.cells #[.int .i64 0, .string ⟨#[]⟩, .string ⟨#[]⟩, .string ⟨#[]⟩, .slice Option.none 0 0, .int .i64 0, .int .i64 0] 38) := ⟨_, rfl⟩
        have hb1 : Below wr.heap.size wr W1 := by rw [hW1]; exact ((Below.refl _ _).alloc (Nat.le_refl _) _).alloc (by simp) _
        have HCl : Hid (Cells W1 wr.heap.size 29 [.int .u8 m, .int .i64 q, .string ⟨tx.toArray⟩]) := Lib.hid (by rw [hW1]; exact (Cells.new wr 29 #[.int .u8 m, .int .i64 q, .string ⟨tx.toArray⟩]).alloc _)
        have HX : Hid (Cells W1 (wr.heap.size + 1) 38 [.int .i64 0, .string ⟨#[]⟩, .string ⟨#[]⟩, .string ⟨#[]⟩, .slice Option.none 0 0, .int .i64 0, .int .i64 0]) := Lib.hid (by rw [hW1]; have h := Cells.new (wr.alloc (.cells #[.int .u8 m, .int .i64 q, .string ⟨tx.toArray⟩] 29)) 38 #[.int .i64 0, .string ⟨#[]⟩, .string ⟨#[]⟩, .string ⟨#[]⟩, .slice Option.none 0 0, .int .i64 0, .int .i64 0]; rw [World.size_alloc] at h; exact h)
        have HSt := Lib.hid (hst.below hb1)
        have HBW := Lib.hid (hbw.trans (hb1.mono hbw.size))
        have hsz1 : W1.heap.size = wr.heap.size + 2 := by rw [hW1]; simp
        have hk0 : (0 : Int) ≤ (l.length : Int) := by omega
        have hmin : min ((l.length : Int) + 1) (l.length : Int) = (l.length : Int) := by omega
        clear hbw hst hb1
        go_upto_region 12 with (fail)
        rw [← hW1]
        clear hW1
        generalize W1 = W at *
        have hsz2 : wr.heap.size + 1 < W.heap.size := HX.out.lt
        have g0 := HCl.out.cell 0
        have g1 := HCl.out.cell 1
        have g2 := HCl.out.cell 2
        simp only [List.getElem?_cons_succ, List.getElem?_cons_zero] at g0 g1 g2
        obtain ⟨⟨a0, a1, a2, a3, a4, a5, a6⟩, _⟩ := cells7 HX.out
        clear hsz1
        rcases hm8 with h8 | h8 | h8 | h8 | h8 | h8 | h8 | h8
        · as_aux_lemma =>
            have HN := Lib.hid (next_end HSt.out rfl)
            unfold tokZA at HN
            go_wp2_with fail
            refine HN.out.mono ?_
            rintro e w5 ⟨rfl, hs5, ho5⟩
            clear HN a0 a1 a2 a3 a4 a5 a6 g0 g1 g2
            have hba5 : Below w5.heap.size w5 (w5.alloc (.cells #[.int .i64 0, .string ⟨#[]⟩, .string ⟨#[]⟩, .string ⟨#[]⟩, .slice Option.none 0 0, .int .i64 0, .int .i64 0] 38)) := (Below.refl _ _).alloc (Nat.le_refl _) _
            have HXX := Lib.hid (Cells.new w5 38 #[.int .i64 0, .string ⟨#[]⟩, .string ⟨#[]⟩, .string ⟨#[]⟩, .slice Option.none 0 0, .int .i64 0, .int .i64 0])
            have HS5 := Lib.hid (hs5.below hba5)
            have hb5 := HBW.out.trans (ho5.base (by have := HBW.out.size; omega) hg)
            have HB5 := Lib.hid (hb5.trans (hba5.mono hb5.size))
            have HE := Lib.hid (fun W => empty_zero W)
            unfold tokZA at HE
            obtain ⟨⟨s0, s1, s2, s3, s4, s5, s6⟩, _⟩ := cells7 (show Cells _ _ 38 [_, _, _, _, _, _, _] from HXX.out)
            clear hs5 ho5 hba5 hb5 HX HBW HSt
            go_wp2_with fail
            refine (HE.out _).mono ?_
            rintro e w6 ⟨rfl, hb6⟩
            clear s0 s1 s2 s3 s4 s5 s6 HE
            have HS6 := Lib.hid (HS5.out.below hb6)
            have HB6 := Lib.hid (HB5.out.trans (hb6.mono HB5.out.size))
            clear hb6 HS5 HB5 HXX
            go_wp2_with fail
            go_roundw
            case rel => exact ⟨j + 1, l.length, by omega, by go_num, by omega, by go_num, HS6.out, HB6.out⟩
            case measure => simp [intOf]; omega
        · as_aux_lemma =>
            have HN := Lib.hid (peek_end HSt.out rfl)
            unfold tokZA at HN
            go_wp2_with fail
            refine HN.out.mono ?_
            rintro e w5 ⟨rfl, hs5, ho5⟩
            clear HN a0 a1 a2 a3 a4 a5 a6 g0 g1 g2
            have hba5 : Below w5.heap.size w5 (w5.alloc (.cells #[.int .i64 0, .string ⟨#[]⟩, .string ⟨#[]⟩, .string ⟨#[]⟩, .slice Option.none 0 0, .int .i64 0, .int .i64 0] 38)) := (Below.refl _ _).alloc (Nat.le_refl _) _
            have HXX := Lib.hid (Cells.new w5 38 #[.int .i64 0, .string ⟨#[]⟩, .string ⟨#[]⟩, .string ⟨#[]⟩, .slice Option.none 0 0, .int .i64 0, .int .i64 0])
            have HS5 := Lib.hid (hs5.below hba5)
            have hb5 := HBW.out.trans (ho5.base (by have := HBW.out.size; omega) hg)
            have HB5 := Lib.hid (hb5.trans (hba5.mono hb5.size))
            have HE := Lib.hid (fun W => empty_zero W)
            unfold tokZA at HE
            obtain ⟨⟨s0, s1, s2, s3, s4, s5, s6⟩, _⟩ := cells7 (show Cells _ _ 38 [_, _, _, _, _, _, _] from HXX.out)
            clear hs5 ho5 hba5 hb5 HX HBW HSt
            go_wp2_with fail
            refine (HE.out _).mono ?_
            rintro e w6 ⟨rfl, hb6⟩
            clear s0 s1 s2 s3 s4 s5 s6 HE
            have HS6 := Lib.hid (HS5.out.below hb6)
            have HB6 := Lib.hid (HB5.out.trans (hb6.mono HB5.out.size))
            clear hb6 HS5 HB5 HXX
            go_wp2_with fail
            go_roundw
            case rel => exact ⟨j + 1, l.length, by omega, by go_num, by omega, rfl, HS6.out, HB6.out⟩
            case measure => simp [intOf]; omega
        · as_aux_lemma =>
            have HN := Lib.hid (take_no q HSt.out HR.out (.inl rfl))
            unfold tokZA at HN
            go_wp2_with fail
            refine HN.out.mono ?_
            rintro e w5 ⟨rfl, hs5, ho5⟩
            clear HN a0 a1 a2 a3 a4 a5 a6 g0 g1 g2
            have hba5 : Below w5.heap.size w5 (w5.alloc (.cells #[.int .i64 0, .string ⟨#[]⟩, .string ⟨#[]⟩, .string ⟨#[]⟩, .slice Option.none 0 0, .int .i64 0, .int .i64 0] 38)) := (Below.refl _ _).alloc (Nat.le_refl _) _
            have HXX := Lib.hid (Cells.new w5 38 #[.int .i64 0, .string ⟨#[]⟩, .string ⟨#[]⟩, .string ⟨#[]⟩, .slice Option.none 0 0, .int .i64 0, .int .i64 0])
            have HS5 := Lib.hid (hs5.below hba5)
            have hb5 := HBW.out.trans (ho5.base (by have := HBW.out.size; omega) hg)
            have HB5 := Lib.hid (hb5.trans (hba5.mono hb5.size))
            have HE := Lib.hid (fun W => empty_zero W)
            unfold tokZA at HE
            obtain ⟨⟨s0, s1, s2, s3, s4, s5, s6⟩, _⟩ := cells7 (show Cells _ _ 38 [_, _, _, _, _, _, _] from HXX.out)
            clear hs5 ho5 hba5 hb5 HX HBW HSt
            go_wp2_with fail
            refine (HE.out _).mono ?_
            rintro e w6 ⟨rfl, hb6⟩
            clear s0 s1 s2 s3 s4 s5 s6 HE
            have HS6 := Lib.hid (HS5.out.below hb6)
            have HB6 := Lib.hid (HB5.out.trans (hb6.mono HB5.out.size))
            clear hb6 HS5 HB5 HXX
            go_wp2_with fail
            go_roundw
            case rel => exact ⟨j + 1, l.length, by omega, by go_num, by omega, rfl, HS6.out, HB6.out⟩
            case measure => simp [intOf]; omega
        · as_aux_lemma =>
            have HN := Lib.hid (accept_no tx HSt.out HR.out (.inl rfl))
            go_wp2_with fail
            refine HN.out.mono ?_
            rintro e w5 ⟨rfl, hs5, ho5⟩
            clear HN a0 a1 a2 a3 a4 a5 a6 g0 g1 g2
            have HB5 := Lib.hid (HBW.out.trans (ho5.base (by have := HBW.out.size; omega) hg))
            have HS5 := Lib.hid hs5
            clear hs5 ho5 HX HBW HSt
            go_wp2_with fail
            go_roundw
            case rel => exact ⟨j + 1, l.length, by omega, by go_num, by omega, rfl, HS5.out, HB5.out⟩
            case measure => simp [intOf]; omega
        · have hcm : cx ≤ maxLen := by
            obtain ⟨_, _, _, e, _, h2, _⟩ := HV.out
            injection e with _ _ e
            omega
          have hcm2 : cx - l.length ≤ maxLen := by omega
          have hsk3 := fun W3 (h : Str W3 g A c l l.length) => skip_any h (Nat.le_refl _) HR.out (by omega)
          rw [List.drop_length] at hsk3
          have HSK := Lib.hid hsk3
          clear hsk3
          by_cases hcx : cx = l.length
          · subst hcx
            as_aux_lemma =>
              go_wp2_with fail
              refine (indexEnd_none _ _ (by first | assumption | exact Nat.zero_le _) W).mono ?_
              rintro e w5 ⟨rfl, hb5⟩
              have hs5 := HSt.out.below hb5
              have hbw5 := HBW.out.trans (hb5.mono HBW.out.size)
              have HS5 := Lib.hid hs5
              have HB5 := Lib.hid hbw5
              clear hs5 hbw5 hb5 HX HBW HSt a0 a1 a2 a3 a4 a5 a6 g0 g1 g2
              go_wp2_with fail
              refine (HSK.out _ HS5.out).mono ?_
              rintro e w6 ⟨he, hs6, ho6⟩
              obtain rfl : e = .returned (.int .i64 0) := he
              have HS6 : Hid (Str w6 g A c l l.length) := Lib.hid hs6
              have HB6 := Lib.hid (HB5.out.trans (ho6.base (by have := HB5.out.size; omega) hg))
              clear hs6 ho6 HS5 HB5
              go_wp2_with fail
              go_roundw
              case rel => exact ⟨j + 1, l.length, by omega, by go_num, Nat.le_refl _, rfl, HS6.out, HB6.out⟩
              case measure => simp [intOf]; omega
          · as_aux_lemma =>
              go_wp2_with fail
              refine (indexEnd_none _ _ (by first | assumption | exact Nat.zero_le _) W).mono ?_
              rintro e w5 ⟨rfl, hb5⟩
              have hs5 := HSt.out.below hb5
              have hbw5 := HBW.out.trans (hb5.mono HBW.out.size)
              have HS5 := Lib.hid hs5
              have HB5 := Lib.hid hbw5
              clear hs5 hbw5 hb5 HX HBW HSt a0 a1 a2 a3 a4 a5 a6 g0 g1 g2
              go_wp2_with fail
              refine (HSK.out _ HS5.out).mono ?_
              rintro e w6 ⟨he, hs6, ho6⟩
              obtain rfl : e = .returned (.int .i64 0) := he
              have HS6 : Hid (Str w6 g A c l l.length) := Lib.hid hs6
              have HB6 := Lib.hid (HB5.out.trans (ho6.base (by have := HB5.out.size; omega) hg))
              clear hs6 ho6 HS5 HB5
              go_wp2_with fail
              go_roundw
              case rel => exact ⟨j + 1, l.length, by omega, by go_num, Nat.le_refl _, rfl, HS6.out, HB6.out⟩
              case measure => simp [intOf]; omega
        · by_cases hl0z : l.length = 0
          · have HL0 : Box (l.length = 0) := ⟨hl0z⟩
            have hl0n : ¬ (0 : Int) < (l.length : Int) := by omega
            clear hl0z
            as_aux_lemma =>
              have hba := (Below.refl W.heap.size W).alloc (Nat.le_refl _) (.cells #[.int .i64 0, .int .i64 0] 36)
              have hN2 := Cells.new W 36 #[.int .i64 0, .int .i64 0]
              have hs2 := HSt.out.below hba
              have hbw2 := HBW.out.trans (hba.mono HBW.out.size)
              go_upto_region 51 with (fail)
              obtain ⟨W2, hW2⟩ : ∃ W2, W2 = W.alloc (.cells #[.int .i64 0, .int .i64 0] 36) := ⟨_, rfl⟩
              rw [← hW2] at hN2 hs2 hbw2 ⊢
              clear hW2 hba
              have HP2 : Hid (Cells W2 W.heap.size 36 [.int .i64 0, .int .i64 0]) := Lib.hid hN2
              have HSt2 := Lib.hid hs2
              have HBW2 := Lib.hid hbw2
              clear hN2 hs2 hbw2
              have hPd := HP2.out
              have pl0 := hPd.cell 0
              have pl1 := hPd.cell 1
              simp only [List.getElem?_cons_succ, List.getElem?_cons_zero] at pl0 pl1
              have HS2 := Lib.hid (HSt2.out.below (below_to_drew (Below.refl W2.heap.size W2)))
              have HP3 : Hid (Cells W2.drew _ 36 _) := Lib.hid hPd.drew
              have HA := Lib.hid (fun W3 (h : Str W3 g A c l l.length) => at_zero h HL0.out)
              clear hPd HX HSt HBW a0 a1 a2 a3 a4 a5 a6 g0 g1 g2
              go_region_held3 (fun w' => w'.cell? ⟨W.heap.size, 0, Option.none⟩ = some (.int .i64 0) ∧ w'.cell? ⟨W.heap.size, 1, Option.none⟩ = some (.int .i64 0)) (first | exact ⟨pl0, pl1⟩ | go_keep | exact ⟨hP5.cell 0, hP5.cell 1⟩)
                ((go_at_call 24; refine (HA.out _ HS2.out).mono ?_; rintro e w5 ⟨rfl, hs5, hb5⟩; have hP5 := HP3.out.below hb5 HP3.out.lt))
              have HS5 := Lib.hid hs5
              have HB5 := Lib.hid ((below_to_drew HBW2.out).trans (hb5.mono HBW2.out.size))
              clear hs5 hb5 hP5 pl0 pl1
              go_wp2_with fail
              go_roundw
              case rel => exact ⟨j + 1, l.length, by omega, by go_num, by omega, rfl, HS5.out, HB5.out⟩
              case measure => simp [intOf]; omega
          as_aux_lemma =>
            obtain ⟨b9, ob9, r9, e9, _, _, hc9⟩ := HV.out.at_ (k := l.length - 1) (by omega)
            subst e9
            have hA := fun W3 (h : Str W3 g A c l l.length) => at_place h (Nat.le_refl _) (by omega) (i := l.length - 1) (by omega) (by omega)
            generalize l[l.length - 1]'(by omega) = t9 at *
            obtain ⟨k9, x9, n9, d9, q9, l9, o9⟩ := t9
            have HA := Lib.hid hA
            have hba := (Below.refl W.heap.size W).alloc (Nat.le_refl _) (.cells #[.int .i64 0, .int .i64 0] 36)
            have hbw2 := HBW.out.trans (hba.mono HBW.out.size)
            have p5 := keep_cell (hc9 5 (by omega)) hbw2
            have p6 := keep_cell (hc9 6 (by omega)) hbw2
            change _ = some (Value.int .i64 l9) at p5
            change _ = some (Value.int .i64 o9) at p6
            have hba2 := (Below.refl W.heap.size W).alloc (Nat.le_refl _) (.cells #[.int .i64 l9, .int .i64 o9] 36)
            have hP2 := Cells.new W 36 #[.int .i64 l9, .int .i64 o9]
            have hs2 := HSt.out.below hba2
            have hbw3 := HBW.out.trans (hba2.mono HBW.out.size)
            have hl0 : (0 : Int) < (l.length : Int) := by omega
            have hwr : IntKind.i64.wrap ((l.length : Int) - 1) = (l.length : Int) - 1 := IntWalk.i64_in _ (by omega)
            have htn : ((l.length : Int) - 1).toNat = l.length - 1 := by omega
            have hx0 : (0 : Int) ≤ (l.length : Int) - 1 := by omega
            have hx1 : (l.length : Int) - 1 < (l.length : Int) := by omega
            have HC9 := Lib.hid hc9
            clear hA hba hba2 hbw2 hc9
            go_upto_region 51 with (fail)
            clear p5 p6 hwr htn hx0 hx1 HC9
            generalize W.alloc (.cells #[.int .i64 l9, .int .i64 o9] 36) = W2 at *
            have HP2 : Hid (Cells W2 W.heap.size 36 [.int .i64 l9, .int .i64 o9]) := Lib.hid hP2
            have HSt2 := Lib.hid hs2
            have HBW2 := Lib.hid hbw3
            clear hP2 hs2 hbw3
            have hPd := HP2.out
            have pl0 := hPd.cell 0
            have pl1 := hPd.cell 1
            simp only [List.getElem?_cons_succ, List.getElem?_cons_zero] at pl0 pl1
            have HS2 := Lib.hid (HSt2.out.below (below_to_drew (Below.refl W2.heap.size W2)))
            have HP3 : Hid (Cells W2.drew _ 36 _) := Lib.hid hPd.drew
            clear hPd HX HSt HBW a0 a1 a2 a3 a4 a5 a6 g0 g1 g2
            go_region_held3 (fun w' => w'.cell? ⟨W.heap.size, 0, Option.none⟩ = some (.int .i64 l9) ∧ w'.cell? ⟨W.heap.size, 1, Option.none⟩ = some (.int .i64 o9)) (first | exact ⟨pl0, pl1⟩ | go_keep | exact ⟨hP5.cell 0, hP5.cell 1⟩)
              ((go_at_call 24; refine (HA.out _ HS2.out).mono ?_; rintro e w5 ⟨rfl, hs5, hb5⟩; have hP5 := HP3.out.below hb5 HP3.out.lt))
            have HS5 := Lib.hid hs5
            have HB5 := Lib.hid ((below_to_drew HBW2.out).trans (hb5.mono HBW2.out.size))
            clear hs5 hb5 hP5 pl0 pl1
            go_wp2_with fail
            go_roundw
            case rel => exact ⟨j + 1, l.length, by omega, by go_num, by omega, rfl, HS5.out, HB5.out⟩
            case measure => simp [intOf]; omega
        · as_aux_lemma =>
            have HN := Lib.hid (mark_yes HSt.out)
            go_wp2_with fail
            refine HN.out.mono ?_
            rintro e w5 ⟨rfl, hs5, ho5⟩
            clear HN a0 a1 a2 a3 a4 a5 a6 g0 g1 g2
            have HB5 := Lib.hid (HBW.out.trans (ho5.base (by have := HBW.out.size; omega) hg))
            have HS5 := Lib.hid hs5
            clear hs5 ho5 HX HBW HSt
            go_wp2_with fail
            go_roundw
            case rel => exact ⟨j + 1, l.length, by omega, by go_num, by omega, rfl, HS5.out, HB5.out⟩
            case measure => simp [intOf]; omega
        · by_cases hq0 : q < 0
          · have hq1 : ¬ 0 ≤ q := by omega
            as_aux_lemma =>
              have HN := Lib.hid (back_bad q HSt.out (.inl hq0))
              go_wp2_with fail
              refine HN.out.mono ?_
              rintro e w5 ⟨rfl, hs5, ho5⟩
              clear HN a0 a1 a2 a3 a4 a5 a6 g0 g1 g2
              have HB5 := Lib.hid (HBW.out.trans (ho5.base (by have := HBW.out.size; omega) hg))
              have HS5 := Lib.hid hs5
              clear hs5 ho5 HX HBW HSt
              go_wp2_with fail
              go_roundw
              case rel => exact ⟨j + 1, l.length, by omega, by go_num, by omega, rfl, HS5.out, HB5.out⟩
              case measure => simp [intOf]; omega
          by_cases hqk : (l.length : Int) < q
          · have hq1 : 0 ≤ q := by omega
            have hq2 : ¬ q ≤ (l.length : Int) := by omega
            as_aux_lemma =>
              have HN := Lib.hid (back_bad q HSt.out (.inr hqk))
              go_wp2_with fail
              refine HN.out.mono ?_
              rintro e w5 ⟨rfl, hs5, ho5⟩
              clear HN a0 a1 a2 a3 a4 a5 a6 g0 g1 g2
              have HB5 := Lib.hid (HBW.out.trans (ho5.base (by have := HBW.out.size; omega) hg))
              have HS5 := Lib.hid hs5
              clear hs5 ho5 HX HBW HSt
              go_wp2_with fail
              go_roundw
              case rel => exact ⟨j + 1, l.length, by omega, by go_num, by omega, rfl, HS5.out, HB5.out⟩
              case measure => simp [intOf]; omega
          obtain ⟨n, rfl⟩ : ∃ n : Nat, q = n := ⟨q.toNat, by omega⟩
          have hq1 : (0 : Int) ≤ (n : Int) := by omega
          have hq2 : (n : Int) ≤ (l.length : Int) := by omega
          as_aux_lemma =>
            have HN := Lib.hid (back_good n HSt.out (by omega))
            go_wp2_with fail
            refine HN.out.mono ?_
            rintro e w5 ⟨rfl, hs5, ho5⟩
            clear HN a0 a1 a2 a3 a4 a5 a6 g0 g1 g2
            have hC5 := (ho5.cells HCl.out (by omega) (by omega)).cell 1
            simp only [List.getElem?_cons_succ, List.getElem?_cons_zero] at hC5
            have HB5 := Lib.hid (HBW.out.trans (ho5.base (by have := HBW.out.size; omega) hg))
            have HS5 := Lib.hid hs5
            clear hs5 ho5 HX HBW HSt
            go_wp2_with fail
            go_roundw
            case rel => exact ⟨j + 1, n, by omega, by go_num, by omega, rfl, HS5.out, HB5.out⟩
            case measure => simp [intOf]; omega
    · obtain rfl : j = cs.length := by omega
      go_wp2_with fail
      go_ret
      exact ⟨rfl, hbw⟩

end Go.Proofs.YtjgpjhaeoiddbaaGreatDoor
