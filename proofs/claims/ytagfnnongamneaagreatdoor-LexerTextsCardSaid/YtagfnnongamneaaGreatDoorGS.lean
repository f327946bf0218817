/- schismaref03.Make. schismaref03.Make of long numbers. schismaref03: digits, number, Text. schismaref03.Parse. schismaref03.Parse of texts with a slash or a point. schismaref03.Parse of texts with a point, and of any text. -/
import Derived.Test.YtagfnnongamneaaGreatDoorGR
import Derived.Test.YtagfnnongamneaaGreatDoorRd1G
namespace Go.Proofs.YtagfnnongamneaaGreatDoor
open Go.RowKit Go.Lib

set_option maxRecDepth 100000 in
set_option maxHeartbeats 4000000 in
theorem make03_short (b : Bool) (va vb : Value) (n d : Nat) (w : World) (hS : Std w) (h1 : TRow w va (pcsI n)) (h2 : TRow w vb (pcsI d)) (hn : n < 1000000000) (hd0 : 0 < d) (hd : d < 1000000000) :
    Calls Tryz.prog 84 #[.agg #[.bool b, va], .agg #[.bool false, vb]] w fun e w' => e = .returned (.agg #[.string ⟨(itoa (sgnd b (n / Nat.gcd n d))).toArray⟩, .string ⟨(itoa ((d / Nat.gcd n d : Nat) : Int)).toArray⟩]) ∧ Below w.heap.size w w' := by
  have hsg : sign03 false (pcsI d) = 1 := by unfold sign03; rw [if_neg (by rw [pcsI_len, pcs_small hd0 hd]; simp)]; rfl
  have HSG := Lib.hid (fun W h => sign03_any false vb (pcsI d) W h)
  rw [hsg] at HSG
  have HS := Lib.hid hS
  have H1 := Lib.hid h1
  have H2 := Lib.hid h2
  obtain ⟨A, ca, rfl, _⟩ := h1.isRow
  obtain ⟨A2, cb, rfl, _⟩ := h2.isRow
  have hp2 := pcs_small hd0 hd
  have h2' : TRow w (.slice A2 1 cb) [(d : Int)] := by
    have h := h2
    rw [pcsI_eq, hp2] at h
    exact h
  obtain ⟨bk, o, rfl, hca⟩ := h2'.one_cell
  have hl2 : (pcsI d).length = 1 := by rw [pcsI_len, hp2]; rfl
  rw [hl2] at HSG H2 ⊢
  rw [pcsI_len] at H1 ⊢
  have HL := Lib.hid (fun W hW h => little_any b n d A ca W hW hn hd0 hd h)
  have hm1 : (pcs n).length ≤ 1 := pcs_len_le 1 n (by simpa using hn)
  have HCA := Lib.hid hca
  generalize itoa (sgnd b (n / Nat.gcd n d)) = la at *
  generalize itoa ((d / Nat.gcd n d : Nat) : Int) = lb at *
  generalize (pcs n).length = m1 at *
  clear h1 h2 h2' hS hca hsg hp2 hl2 hn hd0 hd
  go_enter Tryz.func84, Tryz.ntmps84
  go_wp2_with fail
  obtain ⟨W3, hW3⟩ : ∃ W3, W3 = ((w.alloc (.cells #[.bool b, .slice A m1 ca] 127)).alloc (.cells #[.bool false, .slice (some ⟨bk, o, Option.none⟩) 1 cb] 127)).alloc (.cells #[.string ⟨#[]⟩, .string ⟨#[]⟩] 39) := ⟨_, rfl⟩
  have C1 : Cells W3 w.heap.size 127 [.bool b, .slice A m1 ca] := by rw [hW3]; exact ((Cells.new w _ _).alloc _).alloc _
  have C2 : Cells W3 (w.heap.size + 1) 127 [.bool false, .slice (some ⟨bk, o, Option.none⟩) 1 cb] := by
    have h := Cells.new (w.alloc (.cells #[.bool b, .slice A m1 ca] 127)) 127 #[.bool false, .slice (some ⟨bk, o, Option.none⟩) 1 cb]
    rw [World.size_alloc] at h
    rw [hW3]; exact h.alloc _
  have CR : Cells W3 (w.heap.size + 1 + 1) 39 [.string ⟨#[]⟩, .string ⟨#[]⟩] := by
    have h := Cells.new ((w.alloc (.cells #[.bool b, .slice A m1 ca] 127)).alloc (.cells #[.bool false, .slice (some ⟨bk, o, Option.none⟩) 1 cb] 127)) 39 #[.string ⟨#[]⟩, .string ⟨#[]⟩]
    rw [World.size_alloc, World.size_alloc] at h
    rw [hW3]; exact h
  have hbw : Below w.heap.size w W3 := by rw [hW3]; exact (((Below.refl _ _).alloc (Nat.le_refl _) _).alloc (by simp) _).alloc (by simp; omega) _
  rw [← hW3]
  clear hW3
  refine (HSG.out _ (H2.out.below hbw).isRow).mono ?_
  rintro e w5 ⟨rfl, hb5⟩
  replace C1 := C1.below hb5 C1.lt
  replace C2 := C2.below hb5 C2.lt
  replace CR := CR.below hb5 CR.lt
  replace hbw := hbw.trans (hb5.mono hbw.size)
  clear hb5
  have p0 := C1.cell 0
  have p1 := C1.cell 1
  have q0 := C2.cell 0
  have q1 := C2.cell 1
  have hz0 : w5.cell? ⟨bk, o, Option.none⟩ = some (.int .i64 (d : Int)) := keep_cell HCA.out hbw
  simp only [List.getElem?_cons_succ, List.getElem?_cons_zero] at p0 p1 q0 q1
  have HCR := Lib.hid CR
  have HBW := Lib.hid hbw
  have hbkw := cell_lt HCA.out
  clear C1 C2 CR hbw
  have hm2 : (m1 : Int) ≤ 1 := by omega
  go_wp2_with fail
  have hne1 : bk ≠ w.heap.size + 1 + 1 := by change bk < w.heap.size at hbkw; omega
  have hne2 : w.heap.size + 1 + 1 ≠ bk := by change bk < w.heap.size at hbkw; omega
  have hne3 : w.heap.size ≠ w.heap.size + 1 + 1 := by omega
  have hne4 : w.heap.size + 1 + 1 ≠ w.heap.size := by omega
  have hne5 : w.heap.size + 1 ≠ w.heap.size + 1 + 1 := by omega
  have hne6 : w.heap.size + 1 + 1 ≠ w.heap.size + 1 := by omega
  go_region_held3 (fun w' => w'.cell? ⟨w.heap.size, 0, Option.none⟩ = some (.bool b) ∧ w'.cell? ⟨w.heap.size, 1, Option.none⟩ = some (.slice A m1 ca) ∧ w'.cell? ⟨w.heap.size + 1, 1, Option.none⟩ = some (.slice (some ⟨bk, o, Option.none⟩) 1 cb) ∧ w'.cell? ⟨bk, o, Option.none⟩ = some (.int .i64 (d : Int)))
    (first | go_keep | exact ⟨keep_drew p0 hbk, keep_drew p1 hbk, keep_drew q1 hbk, keep_drew hz0 hbk⟩ | (dsimp only; refine ⟨by rw [World.cell?_setCell_far _ _ _ _ (by show w.heap.size + 1 + 1 ≠ w.heap.size; omega), World.cell?_setCell_far _ _ _ _ (by show w.heap.size + 1 + 1 ≠ w.heap.size; omega)]; exact u0, by rw [World.cell?_setCell_far _ _ _ _ (by show w.heap.size + 1 + 1 ≠ w.heap.size; omega), World.cell?_setCell_far _ _ _ _ (by show w.heap.size + 1 + 1 ≠ w.heap.size; omega)]; exact u1, by rw [World.cell?_setCell_far _ _ _ _ (by show w.heap.size + 1 + 1 ≠ w.heap.size + 1; omega), World.cell?_setCell_far _ _ _ _ (by show w.heap.size + 1 + 1 ≠ w.heap.size + 1; omega)]; exact u2, by rw [World.cell?_setCell_far _ _ _ _ hne2, World.cell?_setCell_far _ _ _ _ hne2]; exact u3⟩))
    ((first | (go_at_call 140; (with_reducible refine (HL.out _ ((HS.out.below HBW.out (Nat.le_refl _)).drew) (H1.out.below (below_to_drew2 HBW.out))).mono ?_); rintro e w7 ⟨rfl, hbk⟩; have CR7 := HCR.out.drew.below hbk HCR.out.drew.lt; have r0 := CR7.cell 0; have r1 := CR7.cell 1; have s0 := CR7.free 0; have s1 := CR7.free 1; simp only [List.getElem?_cons_succ, List.getElem?_cons_zero] at r0 r1; have u0 := keep_drew p0 hbk; have u1 := keep_drew p1 hbk; have u2 := keep_drew q1 hbk; have u3 := keep_drew hz0 hbk)))
  have hbn := (below_to_drew2 HBW.out).trans (hbk.mono (below_to_drew2 HBW.out).size)
  go_wp2_with fail
  refine bodyPost_ret (v := .agg #[.string ⟨la.toArray⟩, .string ⟨lb.toArray⟩]) (by simp [results, Tryz.results84, go_sem, r0, r1]) rfl ⟨rfl, ?_⟩
  exact (hbn.setCell (by show w.heap.size ≤ w.heap.size + 1 + 1; omega) _).setCell (by show w.heap.size ≤ w.heap.size + 1 + 1; omega) _

end Go.Proofs.YtagfnnongamneaaGreatDoor

namespace Go.Proofs.YtagfnnongamneaaGreatDoor
open Go.RowKit Go.Lib

theorem pos_div_gcd {n d : Nat} (hn : 0 < n) : 0 < n / Nat.gcd n d := Nat.div_pos (Nat.gcd_le_left d hn) (Nat.gcd_pos_of_pos_left d hn)

set_option maxRecDepth 100000 in
set_option maxHeartbeats 8000000 in
theorem make03_long (b : Bool) (va vb : Value) (n d : Nat) (w : World) (hS : Std w) (h1 : TRow w va (pcsI n)) (h2 : TRow w vb (pcsI d)) (hd0 : 0 < d) (hb : b = true → 0 < n) (hlong : ¬ ((pcs n).length ≤ 1 ∧ (pcs d).length = 1)) (hln : (pcs n).length ≤ 10000) (hld : (pcs d).length ≤ 10000) (hdn : (decDigits n).length ≤ 100000) (hdd : (decDigits d).length ≤ 100000) :
    Calls Tryz.prog 84 #[.agg #[.bool b, va], .agg #[.bool false, vb]] w fun e w' => e = .returned (.agg #[.string ⟨(itoa (sgnd b (n / Nat.gcd n d))).toArray⟩, .string ⟨(itoa ((d / Nat.gcd n d : Nat) : Int)).toArray⟩]) ∧ Below w.heap.size w w' := by
  have hlp : 0 < (pcs d).length := by rw [pcs_pos hd0]; simp
  have hsg : sign03 false (pcsI d) = 1 := by unfold sign03; rw [if_neg (by rw [pcsI_len]; omega)]; rfl
  have HSG := Lib.hid (fun W h => sign03_any false vb (pcsI d) W h)
  rw [hsg] at HSG
  have HS := Lib.hid hS
  have H1 := Lib.hid h1
  have H2 := Lib.hid h2
  obtain ⟨A1, c1, rfl, _⟩ := h1.isRow
  obtain ⟨A2, c2, rfl, _⟩ := h2.isRow
  rw [pcsI_len] at H1 H2 HSG ⊢
  rw [pcsI_len]
  have hG0 : 0 < Nat.gcd n d := Nat.gcd_pos_of_pos_right n hd0
  have hG1 := Nat.gcd_le_right n hd0
  have hgl : (pcs (Nat.gcd n d)).length ≤ 10000 := Nat.le_trans (pcs_len_mono hG1) hld
  have hx1 := Nat.div_le_self n (Nat.gcd n d)
  have hx2 := Nat.div_le_self d (Nat.gcd n d)
  have hx3 : b = true → 0 < n / Nat.gcd n d := fun h => pos_div_gcd (hb h)
  have hx4 := Nat.le_trans (pcs_len_mono hx1) hln
  have hx5 := Nat.le_trans (pcs_len_mono hx2) hld
  have hx6 := Nat.le_trans (dec_le_len hx1) hdn
  have hx7 := Nat.le_trans (dec_le_len hx2) hdd
  have HG := Lib.hid (fun W h1 h2 => gcdW03_any b false (.slice A1 (pcs n).length c1) (.slice A2 (pcs d).length c2) n d W h1 h2 (by omega) (by omega))
  obtain ⟨G, HGE⟩ : ∃ G, Box (Nat.gcd n d = G) := ⟨_, ⟨rfl⟩⟩
  rw [HGE.out] at hG0 hgl hx1 hx2 hx3 hx4 hx5 hx6 hx7 HG ⊢
  have HD1 := Lib.hid (fun v W h1 h2 => divide03_any (.slice A1 (pcs n).length c1) v n G W h1 h2 hG0 (by omega) (by omega))
  have HD2 := Lib.hid (fun v W h1 h2 => divide03_any (.slice A2 (pcs d).length c2) v d G W h1 h2 hG0 (by omega) (by omega))
  obtain ⟨X, hX⟩ : ∃ X, n / G = X := ⟨_, rfl⟩
  obtain ⟨Y, hY⟩ : ∃ Y, d / G = Y := ⟨_, rfl⟩
  rw [hX] at hx1 hx3 hx4 hx6 ⊢
  rw [hY] at hx2 hx5 hx7 ⊢
  rw [hX] at HD1
  rw [hY] at HD2
  have HTX := Lib.hid (fun A c W h => trim03_pcs b A c _ (pcs X) W rfl h (pcs_lt X))
  have hbx : (b && decide (0 < X)) = b := by
    cases b with
    | false => rfl
    | true => rw [decide_eq_true (hx3 rfl)]; rfl
  rw [pv_pcs, hbx] at HTX
  have HF1 := Lib.hid (fun v W hW h => from03_any b v X W hW h hx3 (by omega) hx6)
  have HF2 := Lib.hid (fun v W hW h => from03_any false v Y W hW h (fun h => by cases h) (by omega) hx7)
  rw [show sgnd false Y = (Y : Int) from rfl] at HF2
  have hm3 : (pcs n).length ≤ 1 → (((pcs d).length : Int) == 1) = false := fun h => by rw [beq_eq_false_iff_ne]; intro h3; exact hlong ⟨h, by omega⟩
  have HM3 : Box ((pcs n).length ≤ 1 → (((pcs d).length : Int) == 1) = false) := ⟨hm3⟩
  generalize itoa (sgnd b X) = la at *
  generalize itoa (Y : Int) = lb at *
  generalize hnn : (pcs n).length = n1 at *
  generalize hnd : (pcs d).length = n2 at *
  clear h1 h2 hS hsg hbx hx1 hx2 hx3 hx4 hx5 hx6 hx7 hX hY hG1 hlong hm3 hdn hdd hlp hb hnn hnd
  go_enter Tryz.func84, Tryz.ntmps84
  go_wp2_with fail
  obtain ⟨W3, hW3⟩ : ∃ W3, W3 = ((w.alloc (.cells #[.bool b, .slice A1 n1 c1] 127)).alloc (.cells #[.bool false, .slice A2 n2 c2] 127)).alloc (.cells #[.string ⟨#[]⟩, .string ⟨#[]⟩] 39) := ⟨_, rfl⟩
  have C1 : Cells W3 w.heap.size 127 [.bool b, .slice A1 n1 c1] := by rw [hW3]; exact ((Cells.new w _ _).alloc _).alloc _
  have C2 : Cells W3 (w.heap.size + 1) 127 [.bool false, .slice A2 n2 c2] := by
    have h := Cells.new (w.alloc (.cells #[.bool b, .slice A1 n1 c1] 127)) 127 #[.bool false, .slice A2 n2 c2]
    rw [World.size_alloc] at h
    rw [hW3]; exact h.alloc _
  have CR : Cells W3 (w.heap.size + 1 + 1) 39 [.string ⟨#[]⟩, .string ⟨#[]⟩] := by
    have h := Cells.new ((w.alloc (.cells #[.bool b, .slice A1 n1 c1] 127)).alloc (.cells #[.bool false, .slice A2 n2 c2] 127)) 39 #[.string ⟨#[]⟩, .string ⟨#[]⟩]
    rw [World.size_alloc, World.size_alloc] at h
    rw [hW3]; exact h
  have hbw : Below w.heap.size w W3 := by rw [hW3]; exact (((Below.refl _ _).alloc (Nat.le_refl _) _).alloc (by simp) _).alloc (by simp; omega) _
  rw [← hW3]
  clear hW3
  refine (HSG.out _ (H2.out.below hbw).isRow).mono ?_
  rintro e w5 ⟨rfl, hb5⟩
  replace C1 := C1.below hb5 C1.lt
  replace C2 := C2.below hb5 C2.lt
  replace CR := CR.below hb5 CR.lt
  replace hbw := hbw.trans (hb5.mono hbw.size)
  clear hb5 HSG
  have p0 := C1.cell 0
  have p1 := C1.cell 1
  have q0 := C2.cell 0
  have q1 := C2.cell 1
  simp only [List.getElem?_cons_succ, List.getElem?_cons_zero] at p0 p1 q0 q1
  have HC1 := Lib.hid C1
  have HC2 := Lib.hid C2
  have HCR := Lib.hid CR
  have HBW := Lib.hid hbw
  clear C1 C2 CR hbw
  by_cases hm1 : n1 ≤ 1
  case' pos =>
    have hm2 := HM3.out hm1
    have hmi : (n1 : Int) ≤ 1 := by omega
  case' neg =>
    have hmi : ¬ (n1 : Int) ≤ 1 := by omega
  all_goals
    go_wp2_with fail
    refine (HG.out _ (H1.out.below HBW.out) (H2.out.below HBW.out)).mono ?_
    rintro e w6 ⟨⟨Ag, cg, rfl, htg⟩, hb⟩
    replace HC1 := Lib.hid (HC1.out.below hb HC1.out.lt)
    replace HC2 := Lib.hid (HC2.out.below hb HC2.out.lt)
    replace HCR := Lib.hid (HCR.out.below hb HCR.out.lt)
    replace HBW := Lib.hid (HBW.out.trans (hb.mono HBW.out.size))
    have HTG := Lib.hid htg
    clear hb htg HG p0 p1 q0 q1
    go_upto_region 6 with (fail)
    obtain ⟨W6, hW6⟩ : ∃ W6, W6 = w6.alloc (.cells #[.bool false, .slice Ag (pcs G).length cg] 127) := ⟨_, rfl⟩
    have CG : Hid (Cells W6 w6.heap.size 127 [.bool false, .slice Ag (pcs G).length cg]) := Lib.hid (by rw [hW6]; exact Cells.new w6 _ _)
    have hb : Below w6.heap.size w6 W6 := by rw [hW6]; exact (Below.refl _ _).alloc (Nat.le_refl _) _
    rw [← hW6]
    clear hW6
    replace HC1 := Lib.hid (HC1.out.below hb HC1.out.lt)
    replace HC2 := Lib.hid (HC2.out.below hb HC2.out.lt)
    replace HCR := Lib.hid (HCR.out.below hb HCR.out.lt)
    replace HBW := Lib.hid (HBW.out.trans (hb.mono HBW.out.size))
    replace HTG := Lib.hid (HTG.out.below hb)
    clear hb
    have p0 := HC1.out.cell 0
    have p1 := HC1.out.cell 1
    have q0 := HC2.out.cell 0
    have q1 := HC2.out.cell 1
    have g0 := CG.out.cell 0
    have g1 := CG.out.cell 1
    simp only [List.getElem?_cons_succ, List.getElem?_cons_zero] at p0 p1 q0 q1 g0 g1
    generalize (pcs G).length = gl at *
    go_wp2_with fail
    refine (HD1.out _ _ (H1.out.below HBW.out) HTG.out).mono ?_
    rintro e w7 ⟨⟨A7, c7, A8, c8, rfl, ht7, _⟩, hb⟩
    replace HC1 := Lib.hid (HC1.out.below hb HC1.out.lt)
    replace HC2 := Lib.hid (HC2.out.below hb HC2.out.lt)
    replace HCR := Lib.hid (HCR.out.below hb HCR.out.lt)
    replace CG := Lib.hid (CG.out.below hb CG.out.lt)
    replace HBW := Lib.hid (HBW.out.trans (hb.mono HBW.out.size))
    replace HTG := Lib.hid (HTG.out.below hb)
    have HT7 := Lib.hid ht7
    clear hb ht7 p0 p1 q0 q1 g0 g1 HD1
    have p0 := HC1.out.cell 0
    have p1 := HC1.out.cell 1
    have q0 := HC2.out.cell 0
    have q1 := HC2.out.cell 1
    have g0 := CG.out.cell 0
    have g1 := CG.out.cell 1
    simp only [List.getElem?_cons_succ, List.getElem?_cons_zero] at p0 p1 q0 q1 g0 g1
    go_wp2_with fail
    refine (HD2.out _ _ (H2.out.below HBW.out) HTG.out).mono ?_
    rintro e w8 ⟨⟨A9, c9, A10, c10, rfl, ht9, _⟩, hb⟩
    replace HC1 := Lib.hid (HC1.out.below hb HC1.out.lt)
    replace HCR := Lib.hid (HCR.out.below hb HCR.out.lt)
    replace HBW := Lib.hid (HBW.out.trans (hb.mono HBW.out.size))
    replace HT7 := Lib.hid (HT7.out.below hb)
    have HT9 := Lib.hid ht9
    clear hb ht9 p0 p1 q0 q1 g0 g1 HD2 HTG CG HC2
    have p0 := HC1.out.cell 0
    have p1 := HC1.out.cell 1
    simp only [List.getElem?_cons_succ, List.getElem?_cons_zero] at p0 p1
    go_wp2_with fail
    refine (HTX.out A7 c7 _ HT7.out).mono ?_
    rintro e w9 ⟨rfl, ht, hb⟩
    replace HCR := Lib.hid (HCR.out.below hb HCR.out.lt)
    replace HBW := Lib.hid (HBW.out.trans (hb.mono HBW.out.size))
    replace HT9 := Lib.hid (HT9.out.below hb)
    have HT := Lib.hid ht
    clear hb ht p0 p1 HC1 HT7
    go_wp2_with fail
    refine (HF1.out _ _ (HS.out.below HBW.out (Nat.le_refl _)) HT.out).mono ?_
    rintro e w10 ⟨rfl, hb⟩
    replace HCR := Lib.hid (HCR.out.below hb HCR.out.lt)
    replace HBW := Lib.hid (HBW.out.trans (hb.mono HBW.out.size))
    replace HT9 := Lib.hid (HT9.out.below hb)
    clear hb HT HF1
    go_wp2_with fail
    refine (HF2.out _ _ (HS.out.below HBW.out (Nat.le_refl _)) HT9.out).mono ?_
    rintro e w11 ⟨rfl, hb⟩
    replace HCR := Lib.hid (HCR.out.below hb HCR.out.lt)
    replace HBW := Lib.hid (HBW.out.trans (hb.mono HBW.out.size))
    clear hb HT9 HF2
    have r0 := HCR.out.cell 0
    have r1 := HCR.out.cell 1
    have s0 := HCR.out.free 0
    have s1 := HCR.out.free 1
    simp only [List.getElem?_cons_succ, List.getElem?_cons_zero] at r0 r1
    have hbn := HBW.out
    go_wp2_with fail
    refine bodyPost_ret (v := .agg #[.string ⟨la.toArray⟩, .string ⟨lb.toArray⟩]) (by simp [results, Tryz.results84, go_sem, r0, r1]) rfl ⟨rfl, ?_⟩
    exact (hbn.setCell (by show w.heap.size ≤ w.heap.size + 1 + 1; omega) _).setCell (by show w.heap.size ≤ w.heap.size + 1 + 1; omega) _

/-- schismaref03.Make of any fraction with a positive denominator. -/
theorem make03_any (b : Bool) (va vb : Value) (n d : Nat) (w : World) (hS : Std w) (h1 : TRow w va (pcsI n)) (h2 : TRow w vb (pcsI d)) (hd0 : 0 < d) (hb : b = true → 0 < n) (hln : (pcs n).length ≤ 10000) (hld : (pcs d).length ≤ 10000) (hdn : (decDigits n).length ≤ 100000) (hdd : (decDigits d).length ≤ 100000) :
    Calls Tryz.prog 84 #[.agg #[.bool b, va], .agg #[.bool false, vb]] w fun e w' => e = .returned (.agg #[.string ⟨(itoa (sgnd b (n / Nat.gcd n d))).toArray⟩, .string ⟨(itoa ((d / Nat.gcd n d : Nat) : Int)).toArray⟩]) ∧ Below w.heap.size w w' := by
  by_cases hl : (pcs n).length ≤ 1 ∧ (pcs d).length = 1
  · have hn : n < 1000000000 := by
      rcases Nat.eq_zero_or_pos n with h0 | h0
      · omega
      · exact (pcs_len_one (by have : 0 < (pcs n).length := by rw [pcs_pos h0]; simp
                               omega)).2.1
    exact make03_short b va vb n d w hS h1 h2 hn hd0 (pcs_len_one hl.2).2.1
  · exact make03_long b va vb n d w hS h1 h2 hd0 hb hl hln hld hdn hdd

end Go.Proofs.YtagfnnongamneaaGreatDoor

namespace Go.Proofs.YtagfnnongamneaaGreatDoor
open Go.RowKit Go.Lib

set_option maxRecDepth 100000 in
set_option maxHeartbeats 1000000 in
theorem digits03_any (l : List UInt8) (w : World) (hl : l.length ≤ 1000000) :
    Calls Tryz.prog 152 #[.string ⟨l.toArray⟩] w fun e w' => e = .returned (.bool (okDig l)) ∧ w = w' := by
  have HE : Box (okDig l = (!l.isEmpty && l.all digB)) := ⟨rfl⟩
  generalize okDig l = out at *
  go_enter Tryz.func152, Tryz.ntmps152
  go_wp2
  go_loop [3] (fun i => ∃ k : Nat, k ≤ l.length ∧ i = .int .i64 k ∧ Box ((l.take k).all digB = true)) (fun i => l.length - (intOf i).toNat)
  case atStart => exact ⟨0, Nat.zero_le _, rfl, ⟨rfl⟩⟩
  case round =>
    obtain ⟨k, hk, rfl, HD⟩ := hrel
    by_cases hlt : k < l.length
    · have hxk := ba_at l k
      have HB : Hid (digB (l[k]?.getD 0) = false → l.all digB = false) := Lib.hid fun h => by
        rw [List.all_eq_false]
        exact ⟨l[k], List.getElem_mem hlt, by rw [List.getElem?_eq_getElem hlt] at h; simpa using h⟩
      have HSU := Lib.hid (all_succ (l := l) (k := k) hlt)
      have HDB : Box (digB (l[k]?.getD 0) = decide (48 ≤ (l[k]?.getD 0).toNat ∧ (l[k]?.getD 0).toNat ≤ 57)) := ⟨rfl⟩
      generalize l[k]?.getD 0 = ck at *
      by_cases hc1 : ck.toNat < 48
      · have HF : Box (out = false) := ⟨by rw [HE.out, HB.out (by rw [HDB.out]; simp; omega), Bool.and_false]⟩
        go_wp2
        go_ret
        exact ⟨ret1 (congrArg Value.bool HF.out.symm), rfl⟩
      · by_cases hc2 : 57 < ck.toNat
        · have HF : Box (out = false) := ⟨by rw [HE.out, HB.out (by rw [HDB.out]; simp; omega), Bool.and_false]⟩
          go_wp2
          go_ret
          exact ⟨ret1 (congrArg Value.bool HF.out.symm), rfl⟩
        · go_wp2
          go_round
          case rel => exact ⟨k + 1, by omega, by go_num, ⟨by rw [HSU.out, HD.out, HDB.out]; simp; omega⟩⟩
          case measure => simp [intOf]; omega
    · obtain rfl : k = l.length := by omega
      have hall : l.all digB = true := by have := HD.out; rw [List.take_of_length_le (Nat.le_refl _)] at this; exact this
      have HF : Box (out = decide (0 < l.length)) := ⟨by rw [HE.out, hall]; cases l with | nil => rfl | cons _ _ => simp⟩
      clear hall
      go_wp2
      go_ret
      refine ⟨ret1 (congrArg Value.bool ?_), rfl⟩
      rw [HF.out]

set_option maxRecDepth 100000 in
set_option maxHeartbeats 1000000 in
theorem number03_any (l : List UInt8) (w : World) (ho : okDig l = true) (hl : l.length ≤ 40000) :
    Calls Tryz.prog 153 #[.string ⟨l.toArray⟩] w fun e w' => (∃ A c, e = .returned (.agg #[.bool false, .slice A (pcs (dval 0 l)).length c]) ∧ TRow w' (.slice A (pcs (dval 0 l)).length c) (pcsI (dval 0 l))) ∧ Below w.heap.size w w' := by
  have hdl := dval_len ho
  obtain ⟨_, hall⟩ := okDig_all ho
  obtain ⟨z1, z2⟩ := trim_zeros l hall
  have HT := Lib.hid (fun W => trimZeros_any l W)
  have HTO := Lib.hid (fun W => to03_any ((dval 0 l : Nat) : Int) W (by rw [itoa_nat]; omega))
  rw [itoa_nat, Int.natAbs_natCast, decide_eq_false (by omega : ¬ ((dval 0 l : Nat) : Int) < 0), pcsI_len] at HTO
  rcases Nat.eq_zero_or_pos (dval 0 l) with hz | hz
  · rw [z1 hz] at HT
    rw [hz] at HTO ⊢
    rw [dec_small (by omega), show UInt8.ofNat (48 + 0) = 48 from rfl] at HTO
    generalize pcsI 0 = x at *
    generalize (pcs 0).length = m at *
    clear z1 z2 hz hall ho hdl
    go_enter Tryz.func153, Tryz.ntmps153
    go_wp2_with fail
    refine (HT.out _).mono ?_
    rintro e w1 ⟨rfl, hb1⟩
    rw [World.size_alloc] at hb1
    go_wp2_with fail
    refine (HTO.out _).mono ?_
    rintro e w2 ⟨⟨A, c, rfl, hr⟩, hb2⟩
    replace hb1 := hb1.trans (hb2.mono (by have := hb1.size; simp at this; omega))
    have HR := Lib.hid hr
    obtain ⟨q0, q1, q2, q3, q4⟩ := two_below hb1
    have hbw := below_result hb1
    have HC := Lib.hid (cells_of_below hb1)
    clear hb2 hr hb1
    go_wp2_with fail
    refine bodyPost_ret (v := .agg #[.bool false, .slice A m c]) (by simp [results, Tryz.results153, go_sem, q0, q1]) rfl ⟨⟨A, c, rfl, ?_⟩, ?_⟩
    · exact (HR.out.set HC.out (by decide) _).set (HC.out.set 0 _) (by decide) _
    · exact (hbw.setCell (Nat.le_refl _) _).setCell (Nat.le_refl _) _
  · rw [z2 hz] at HT
    have hne : (decDigits (dval 0 l)).isEmpty = false := by cases hd : decDigits (dval 0 l) with | nil => exact absurd hd (dec_ne_nil _) | cons _ _ => rfl
    have hne2 : ¬ decDigits (dval 0 l) = [] := dec_ne_nil _
    generalize pcsI (dval 0 l) = x at *
    generalize (pcs (dval 0 l)).length = m at *
    generalize decDigits (dval 0 l) = dt at *
    clear z1 z2 hz hall ho hdl
    go_enter Tryz.func153, Tryz.ntmps153
    go_wp2_with fail
    refine (HT.out _).mono ?_
    rintro e w1 ⟨rfl, hb1⟩
    rw [World.size_alloc] at hb1
    go_wp2_with fail
    refine (HTO.out _).mono ?_
    rintro e w2 ⟨⟨A, c, rfl, hr⟩, hb2⟩
    replace hb1 := hb1.trans (hb2.mono (by have := hb1.size; simp at this; omega))
    have HR := Lib.hid hr
    obtain ⟨q0, q1, q2, q3, q4⟩ := two_below hb1
    have hbw := below_result hb1
    have HC := Lib.hid (cells_of_below hb1)
    clear hb2 hr hb1
    go_wp2_with fail
    refine bodyPost_ret (v := .agg #[.bool false, .slice A m c]) (by simp [results, Tryz.results153, go_sem, q0, q1]) rfl ⟨⟨A, c, rfl, ?_⟩, ?_⟩
    · exact (HR.out.set HC.out (by decide) _).set (HC.out.set 0 _) (by decide) _
    · exact (hbw.setCell (Nat.le_refl _) _).setCell (Nat.le_refl _) _

set_option maxRecDepth 100000 in
set_option maxHeartbeats 1000000 in
theorem text03_any (a b : List UInt8) (w : World) (ha : a.length ≤ 100000) (hb : b.length ≤ 100000) :
    Calls Tryz.prog 99 #[.agg #[.string ⟨a.toArray⟩, .string ⟨b.toArray⟩]] w fun e w' => e = .returned (.string ⟨(ratText a b).toArray⟩) ∧ Below w.heap.size w w' := by
  by_cases h1 : b = [49]
  · have HE : Box (ratText a b = a) := ⟨by unfold ratText; rw [if_pos (by simpa using h1)]⟩
    rw [HE.out]
    have hb1 : (b == [49]) = true := by simpa using h1
    clear hb
    subst h1
    go_enter Tryz.func99, Tryz.ntmps99
    go_wp2_with fail
    go_ret
    exact ⟨rfl, (Below.refl _ _).alloc (Nat.le_refl _) _⟩
  · have HE : Box (ratText a b = a ++ [47] ++ b) := ⟨by unfold ratText; rw [if_neg (by simpa using h1)]; simp⟩
    rw [HE.out]
    have hb1 : (b == [49]) = false := by simpa using h1
    have hs1 : ¬ 9223372036854775807 < a.length + 1 := by omega
    have hs2 : ¬ 9223372036854775807 < a.length + 1 + b.length := by omega
    go_enter Tryz.func99, Tryz.ntmps99
    go_wp2_with fail
    go_ret
    exact ⟨congrArg (fun s => Ending.returned (Value.string s)) ((congrArg (· ++ (⟨b.toArray⟩ : ByteArray)) (ba_append a [47])).trans (ba_append (a ++ [47]) b)), (Below.refl _ _).alloc (Nat.le_refl _) _⟩

end Go.Proofs.YtagfnnongamneaaGreatDoor

namespace Go.Proofs.YtagfnnongamneaaGreatDoor
open Go.RowKit Go.Lib

def TpIs (s t : List UInt8) : Prop := ∀ W, Calls Tryz.prog 120 #[.string ⟨s.toArray⟩, .string ⟨#[45]⟩] W fun e w' => e = .returned (.string ⟨t.toArray⟩) ∧ Below W.heap.size W w'

theorem low_make (b : Bool) (N D : Nat) : lowN (sgnd b N) D = sgnd (b && decide (0 < N)) (N / Nat.gcd N D) ∧ lowD (sgnd b N) D = ((D / Nat.gcd N D : Nat) : Int) := by
  unfold lowN lowD
  rw [sgnd_abs, Int.natAbs_natCast]
  refine ⟨?_, rfl⟩
  cases b with
  | false => rfl
  | true =>
    rcases Nat.eq_zero_or_pos N with h | h
    · subst h; simp [sgnd]
    · rw [decide_eq_true h]
      show -(N : Int) / ((Nat.gcd N D : Nat) : Int) = -((N / Nat.gcd N D : Nat) : Int)
      rw [Int.neg_ediv_of_dvd (Int.natCast_dvd_natCast.2 (Nat.gcd_dvd_left N D))]
      rfl
/-- Make gives what the reading says. -/
theorem make_read (b fl : Bool) (N D : Nat) (va vb : Value) (w : World) (hS : Std w) (hfl : fl = (b && decide (0 < N))) (h1 : TRow w va (pcsI N)) (h2 : TRow w vb (pcsI D)) (hD : 0 < D) (hn : (decDigits N).length ≤ 5000) (hd : (decDigits D).length ≤ 5000) :
    Calls Tryz.prog 84 #[.agg #[.bool fl, va], .agg #[.bool false, vb]] w fun e w' => e = .returned (.agg #[.string ⟨(itoa (lowN (sgnd b N) D)).toArray⟩, .string ⟨(itoa (lowD (sgnd b N) D)).toArray⟩]) ∧ Below w.heap.size w w' := by
  subst hfl
  rw [(low_make b N D).1, (low_make b N D).2]
  have h3 := pcs_le_dec N
  have h4 := pcs_le_dec D
  exact make03_any _ va vb N D w hS h1 h2 hD (fun h => by
    rw [Bool.and_eq_true] at h
    exact of_decide_eq_true h.2) (by omega) (by omega) (by omega) (by omega)

set_option maxRecDepth 100000 in
theorem p03_long (s : List UInt8) (w : World) (hl : 400 < s.length) (hl2 : s.length ≤ 1000000) :
    Calls Tryz.prog 98 #[.string ⟨s.toArray⟩] w fun e w' => e = .returned (frdOut false (.bad 16)) ∧ Below w.heap.size w w' := by
  rw [frdOut_bad]
  go_enter Tryz.func98, Tryz.ntmps98
  go_wp2_with fail
  refine bodyPost_ret (v := .tuple #[.agg #[.string ⟨#[]⟩, .string ⟨#[]⟩], .int .i64 16]) (by simp [results, Tryz.results98, go_sem]) rfl ⟨rfl, ?_⟩
  exact (Below.refl _ _).alloc (Nat.le_refl _) _

set_option maxRecDepth 100000 in
set_option maxHeartbeats 8000000 in
theorem p03_none (s t : List UInt8) (b : Bool) (w : World) (hS : Std w) (hl : s.length ≤ 400) (ht : t.length ≤ s.length) (hb : decide (t.length < s.length) = b) (hc : TpIs s t) (hi : IdxIs t (-1)) :
    Calls Tryz.prog 98 #[.string ⟨s.toArray⟩] w fun e w' => e = .returned (frdOut b (if okDig t then .good (dval 0 t) 1 else .bad 15)) ∧ Below w.heap.size w w' := by
  have HC := Lib.hid hc
  have HI := Lib.hid hi
  have HS := Lib.hid hS
  have HOF := Lib.hid (fun W hW => of03_any 1 W hW (by omega) (by omega) (of_decide_eq_true (by kernel_rfl)))
  rw [show decide ((1 : Int) < 0) = false from rfl, show (1 : Int).natAbs = 1 from rfl, show (pcsI 1).length = 1 by rw [pcsI_len, pcs_one]; rfl] at HOF
  have HDG := Lib.hid (fun W => digits03_any t W (by omega))
  have HNU := Lib.hid (fun ho W => number03_any t W ho (by omega))
  have HSG := Lib.hid (fun v W h => sign03_any false v (pcsI 1) W h)
  rw [show sign03 false (pcsI 1) = 1 by unfold sign03; rw [if_neg (by rw [pcsI_len, pcs_one]; decide)]; rfl] at HSG
  have hli : (s.length : Int) ≤ 400 := by omega
  cases ho : okDig t with
  | false =>
    rw [ho] at HDG
    rw [if_neg (by decide), frdOut_bad]
    clear hc hi hS hl ht hb ho HNU HSG
    go_enter Tryz.func98, Tryz.ntmps98
    go_wp2_with fail
    refine (HC.out _).mono ?_
    rintro e w1 ⟨rfl, hb1⟩
    rw [World.size_alloc] at hb1
    have CR := Lib.hid (cells_of_below hb1)
    have HBW := Lib.hid (below_result hb1)
    clear hb1 HC
    go_wp2_with fail
    refine (HI.out _).mono ?_
    rintro e w2 ⟨rfl, hb⟩
    replace CR := Lib.hid (CR.out.below hb CR.out.lt)
    replace HBW := Lib.hid (HBW.out.trans (hb.mono HBW.out.size))
    clear hb HI
    go_wp2_with fail
    refine (HOF.out _ (HS.out.below HBW.out (Nat.le_refl _))).mono ?_
    rintro e w3 ⟨⟨A8, c8, rfl, ht8⟩, hb⟩
    replace CR := Lib.hid (CR.out.below hb CR.out.lt)
    replace HBW := Lib.hid (HBW.out.trans (hb.mono HBW.out.size))
    have TD := Lib.hid ht8
    clear hb ht8 HOF
    go_upto_region 6 with (fail)
    obtain ⟨W4, hW4⟩ : ∃ W4, W4 = w3.alloc (.cells #[.bool false, .slice A8 1 c8] 127) := ⟨_, rfl⟩
    have C8 : Hid (Cells W4 w3.heap.size 127 [.bool false, .slice A8 1 c8]) := Lib.hid (by rw [hW4]; exact Cells.new w3 _ _)
    have hb : Below w3.heap.size w3 W4 := by rw [hW4]; exact (Below.refl _ _).alloc (Nat.le_refl _) _
    rw [← hW4]
    have hz8 := CR.out.lt
    replace CR := Lib.hid (CR.out.below hb CR.out.lt)
    replace HBW := Lib.hid (HBW.out.trans (hb.mono HBW.out.size))
    replace TD := Lib.hid (TD.out.below hb)
    clear hb hW4
    go_wp2_with fail
    refine (HDG.out _).mono ?_
    rintro e w5 ⟨rfl, rfl⟩
    have q0 := CR.out.cell 0
    have q1 := CR.out.cell 1
    have q2 := CR.out.free 0
    have q3 := CR.out.free 1
    simp only [List.getElem?_cons_succ, List.getElem?_cons_zero] at q0 q1
    have hbw2 := HBW.out
    go_wp2_with fail
    refine bodyPost_ret (v := .tuple #[.agg #[.string ⟨#[]⟩, .string ⟨#[]⟩], .int .i64 15]) (by simp [results, Tryz.results98, go_sem, q0, q1]) rfl ⟨rfl, ?_⟩
    exact (hbw2.setCell (Nat.le_refl _) _).setCell (Nat.le_refl _) _
  | true =>
    rw [ho] at HDG
    rw [if_pos rfl, frdOut_good]
    have hdl := dval_len ho
    have HN2 := Lib.hid (fun W => HNU.out ho W)
    obtain ⟨N, hN⟩ : ∃ N, dval 0 t = N := ⟨_, rfl⟩
    rw [hN] at hdl HN2 ⊢
    have HNG := Lib.hid (fun v W h => negW03_any false v N W h)
    have HMK := Lib.hid (fun fl va vb W hfl hW h1 h2 => make_read b fl N 1 va vb W hW hfl h1 h2 (by omega) (by omega) (of_decide_eq_true (by kernel_rfl)))
    generalize itoa (lowN (sgnd b N) ((1 : Nat) : Int)) = la at *
    generalize itoa (lowD (sgnd b N) ((1 : Nat) : Int)) = lb at *
    obtain ⟨m9, hm9⟩ : ∃ m9, (pcs N).length = m9 := ⟨_, rfl⟩
    rw [hm9] at HN2 HNG
    clear hc hi hS hN hdl HNU hl ho
    cases b with
    | false =>
      have hbl : ¬ (t.length : Int) < (s.length : Int) := by have := of_decide_eq_false hb; omega
      replace HMK := Lib.hid (fun va vb W hW h1 h2 => HMK.out false va vb W rfl hW h1 h2)
      clear hb ht hm9 HNG
      go_enter Tryz.func98, Tryz.ntmps98
      go_wp2_with fail
      refine (HC.out _).mono ?_
      rintro e w1 ⟨rfl, hb1⟩
      rw [World.size_alloc] at hb1
      have CR := Lib.hid (cells_of_below hb1)
      have HBW := Lib.hid (below_result hb1)
      clear hb1 HC
      go_wp2_with fail
      refine (HI.out _).mono ?_
      rintro e w2 ⟨rfl, hb⟩
      replace CR := Lib.hid (CR.out.below hb CR.out.lt)
      replace HBW := Lib.hid (HBW.out.trans (hb.mono HBW.out.size))
      clear hb HI
      go_wp2_with fail
      refine (HOF.out _ (HS.out.below HBW.out (Nat.le_refl _))).mono ?_
      rintro e w3 ⟨⟨A8, c8, rfl, ht8⟩, hb⟩
      replace CR := Lib.hid (CR.out.below hb CR.out.lt)
      replace HBW := Lib.hid (HBW.out.trans (hb.mono HBW.out.size))
      have TD := Lib.hid ht8
      clear hb ht8 HOF
      go_upto_region 6 with (fail)
      obtain ⟨W4, hW4⟩ : ∃ W4, W4 = w3.alloc (.cells #[.bool false, .slice A8 1 c8] 127) := ⟨_, rfl⟩
      have C8 : Hid (Cells W4 w3.heap.size 127 [.bool false, .slice A8 1 c8]) := Lib.hid (by rw [hW4]; exact Cells.new w3 _ _)
      have hb : Below w3.heap.size w3 W4 := by rw [hW4]; exact (Below.refl _ _).alloc (Nat.le_refl _) _
      rw [← hW4]
      have hz8 := CR.out.lt
      replace CR := Lib.hid (CR.out.below hb CR.out.lt)
      replace HBW := Lib.hid (HBW.out.trans (hb.mono HBW.out.size))
      replace TD := Lib.hid (TD.out.below hb)
      clear hb hW4
      go_wp2_with fail
      refine (HDG.out _).mono ?_
      rintro e w4 ⟨rfl, rfl⟩
      go_wp2_with fail
      refine (HN2.out _).mono ?_
      rintro e w5 ⟨⟨A9, c9, rfl, ht9⟩, hb⟩
      replace CR := Lib.hid (CR.out.below hb CR.out.lt)
      replace C8 := Lib.hid (C8.out.below hb C8.out.lt)
      replace TD := Lib.hid (TD.out.below hb)
      replace HBW := Lib.hid (HBW.out.trans (hb.mono HBW.out.size))
      have TN := Lib.hid ht9
      clear hb ht9
      go_upto_region 11 with (fail)
      obtain ⟨W6, hW6⟩ : ∃ W6, W6 = w5.alloc (.cells #[.bool false, .slice A9 m9 c9] 127) := ⟨_, rfl⟩
      have C9 : Hid (Cells W6 w5.heap.size 127 [.bool false, .slice A9 m9 c9]) := Lib.hid (by rw [hW6]; exact Cells.new w5 _ _)
      have hb : Below w5.heap.size w5 W6 := by rw [hW6]; exact (Below.refl _ _).alloc (Nat.le_refl _) _
      rw [← hW6]
      have hz9 := C8.out.lt
      replace CR := Lib.hid (CR.out.below hb CR.out.lt)
      replace C8 := Lib.hid (C8.out.below hb C8.out.lt)
      replace TD := Lib.hid (TD.out.below hb)
      replace TN := Lib.hid (TN.out.below hb)
      replace HBW := Lib.hid (HBW.out.trans (hb.mono HBW.out.size))
      clear hb hW6
      obtain ⟨B9, hB9⟩ : ∃ B9, w5.heap.size = B9 := ⟨_, rfl⟩
      rw [hB9] at C9 hz9
      rw [hB9]
      clear hB9
      have p0 := C8.out.cell 0
      have p1 := C8.out.cell 1
      simp only [List.getElem?_cons_succ, List.getElem?_cons_zero] at p0 p1
      go_wp2_with fail
      refine (HSG.out _ _ TD.out.isRow).mono ?_
      rintro e w15 ⟨rfl, hb⟩
      replace CR := Lib.hid (CR.out.below hb CR.out.lt)
      replace C8 := Lib.hid (C8.out.below hb C8.out.lt)
      replace C9 := Lib.hid (C9.out.below hb C9.out.lt)
      replace TD := Lib.hid (TD.out.below hb)
      replace TN := Lib.hid (TN.out.below hb)
      replace HBW := Lib.hid (HBW.out.trans (hb.mono HBW.out.size))
      clear hb p0 p1
      have p0 := C8.out.cell 0
      have p1 := C8.out.cell 1
      simp only [List.getElem?_cons_succ, List.getElem?_cons_zero] at p0 p1
      have q0 := C9.out.cell 0
      have q1 := C9.out.cell 1
      simp only [List.getElem?_cons_succ, List.getElem?_cons_zero] at q0 q1
      go_wp2_with fail
      refine (HMK.out _ _ _ (HS.out.below HBW.out (Nat.le_refl _)) TN.out TD.out).mono ?_
      rintro e w18 ⟨rfl, hb⟩
      replace CR := Lib.hid (CR.out.below hb CR.out.lt)
      replace HBW := Lib.hid (HBW.out.trans (hb.mono HBW.out.size))
      clear hb p0 p1 q0 q1
      have q0 := CR.out.cell 0
      have q1 := CR.out.cell 1
      have q2 := CR.out.free 0
      have q3 := CR.out.free 1
      simp only [List.getElem?_cons_succ, List.getElem?_cons_zero] at q0 q1
      have hbw2 := HBW.out
      go_wp2_with fail
      refine bodyPost_ret (v := .tuple #[.agg #[.string ⟨la.toArray⟩, .string ⟨lb.toArray⟩], .int .i64 0]) (by simp [results, Tryz.results98, go_sem, q0, q1]) rfl ⟨rfl, ?_⟩
      exact (hbw2.setCell (Nat.le_refl _) _).setCell (Nat.le_refl _) _
    | true =>
      have hbl : (t.length : Int) < (s.length : Int) := by have := of_decide_eq_true hb; omega
      obtain ⟨FL, hFL⟩ : ∃ FL : Bool, (!false && decide (0 < N)) = FL := ⟨_, rfl⟩
      rw [hFL] at HNG
      replace HMK := Lib.hid (fun va vb W hW h1 h2 => HMK.out FL va vb W hFL.symm hW h1 h2)
      clear hb ht hm9 hFL
      go_enter Tryz.func98, Tryz.ntmps98
      go_wp2_with fail
      refine (HC.out _).mono ?_
      rintro e w1 ⟨rfl, hb1⟩
      rw [World.size_alloc] at hb1
      have CR := Lib.hid (cells_of_below hb1)
      have HBW := Lib.hid (below_result hb1)
      clear hb1 HC
      go_wp2_with fail
      refine (HI.out _).mono ?_
      rintro e w2 ⟨rfl, hb⟩
      replace CR := Lib.hid (CR.out.below hb CR.out.lt)
      replace HBW := Lib.hid (HBW.out.trans (hb.mono HBW.out.size))
      clear hb HI
      go_wp2_with fail
      refine (HOF.out _ (HS.out.below HBW.out (Nat.le_refl _))).mono ?_
      rintro e w3 ⟨⟨A8, c8, rfl, ht8⟩, hb⟩
      replace CR := Lib.hid (CR.out.below hb CR.out.lt)
      replace HBW := Lib.hid (HBW.out.trans (hb.mono HBW.out.size))
      have TD := Lib.hid ht8
      clear hb ht8 HOF
      go_upto_region 6 with (fail)
      obtain ⟨W4, hW4⟩ : ∃ W4, W4 = w3.alloc (.cells #[.bool false, .slice A8 1 c8] 127) := ⟨_, rfl⟩
      have C8 : Hid (Cells W4 w3.heap.size 127 [.bool false, .slice A8 1 c8]) := Lib.hid (by rw [hW4]; exact Cells.new w3 _ _)
      have hb : Below w3.heap.size w3 W4 := by rw [hW4]; exact (Below.refl _ _).alloc (Nat.le_refl _) _
      rw [← hW4]
      have hz8 := CR.out.lt
      replace CR := Lib.hid (CR.out.below hb CR.out.lt)
      replace HBW := Lib.hid (HBW.out.trans (hb.mono HBW.out.size))
      replace TD := Lib.hid (TD.out.below hb)
      clear hb hW4
      go_wp2_with fail
      refine (HDG.out _).mono ?_
      rintro e w4 ⟨rfl, rfl⟩
      go_wp2_with fail
      refine (HN2.out _).mono ?_
      rintro e w5 ⟨⟨A9, c9, rfl, ht9⟩, hb⟩
      replace CR := Lib.hid (CR.out.below hb CR.out.lt)
      replace C8 := Lib.hid (C8.out.below hb C8.out.lt)
      replace TD := Lib.hid (TD.out.below hb)
      replace HBW := Lib.hid (HBW.out.trans (hb.mono HBW.out.size))
      have TN := Lib.hid ht9
      clear hb ht9
      go_upto_region 11 with (fail)
      obtain ⟨W6, hW6⟩ : ∃ W6, W6 = w5.alloc (.cells #[.bool false, .slice A9 m9 c9] 127) := ⟨_, rfl⟩
      have C9 : Hid (Cells W6 w5.heap.size 127 [.bool false, .slice A9 m9 c9]) := Lib.hid (by rw [hW6]; exact Cells.new w5 _ _)
      have hb : Below w5.heap.size w5 W6 := by rw [hW6]; exact (Below.refl _ _).alloc (Nat.le_refl _) _
      rw [← hW6]
      have hz9 := C8.out.lt
      replace CR := Lib.hid (CR.out.below hb CR.out.lt)
      replace C8 := Lib.hid (C8.out.below hb C8.out.lt)
      replace TD := Lib.hid (TD.out.below hb)
      replace TN := Lib.hid (TN.out.below hb)
      replace HBW := Lib.hid (HBW.out.trans (hb.mono HBW.out.size))
      clear hb hW6
      obtain ⟨B9, hB9⟩ : ∃ B9, w5.heap.size = B9 := ⟨_, rfl⟩
      rw [hB9] at C9 hz9
      rw [hB9]
      clear hB9
      have p0 := C8.out.cell 0
      have p1 := C8.out.cell 1
      simp only [List.getElem?_cons_succ, List.getElem?_cons_zero] at p0 p1
      go_wp2_with fail
      refine (HSG.out _ _ TD.out.isRow).mono ?_
      rintro e w15 ⟨rfl, hb⟩
      replace CR := Lib.hid (CR.out.below hb CR.out.lt)
      replace C8 := Lib.hid (C8.out.below hb C8.out.lt)
      replace C9 := Lib.hid (C9.out.below hb C9.out.lt)
      replace TD := Lib.hid (TD.out.below hb)
      replace TN := Lib.hid (TN.out.below hb)
      replace HBW := Lib.hid (HBW.out.trans (hb.mono HBW.out.size))
      clear hb p0 p1
      have p0 := C9.out.cell 0
      have p1 := C9.out.cell 1
      simp only [List.getElem?_cons_succ, List.getElem?_cons_zero] at p0 p1
      go_wp2_with fail
      refine (HNG.out _ _ TN.out).mono ?_
      rintro e w16 ⟨⟨A10, c10, rfl, ht10⟩, hb⟩
      replace CR := Lib.hid (CR.out.below hb CR.out.lt)
      replace C8 := Lib.hid (C8.out.below hb C8.out.lt)
      replace C9 := Lib.hid (C9.out.below hb C9.out.lt)
      replace TD := Lib.hid (TD.out.below hb)
      replace HBW := Lib.hid (HBW.out.trans (hb.mono HBW.out.size))
      replace TN := Lib.hid ht10
      clear hb ht10 p0 p1
      have p0 := C9.out.cell 0
      have p1 := C9.out.cell 1
      have f0 := C9.out.free 0
      have f1 := C9.out.free 1
      simp only [List.getElem?_cons_succ, List.getElem?_cons_zero] at p0 p1
      go_upto_region 19 with (fail)
      obtain ⟨W17, hW17⟩ : ∃ W17, W17 = (w16.setCell ⟨B9, 0, Option.none⟩ (.bool FL)).setCell ⟨B9, 1, Option.none⟩ (.slice A10 m9 c10) := ⟨_, rfl⟩
      rw [← hW17]
      replace TN := Lib.hid (show TRow W17 _ _ by rw [hW17]; exact (TN.out.set C9.out (by decide) _).set (C9.out.set 0 _) (by decide) _)
      replace TD := Lib.hid (show TRow W17 _ _ by rw [hW17]; exact (TD.out.set C9.out (by decide) _).set (C9.out.set 0 _) (by decide) _)
      replace CR := Lib.hid (show Cells W17 _ _ _ by rw [hW17]; exact (CR.out.far (by show w.heap.size ≠ B9; omega) _).far (by show w.heap.size ≠ B9; omega) _)
      replace C8 := Lib.hid (show Cells W17 _ _ _ by rw [hW17]; exact (C8.out.far (by show w3.heap.size ≠ B9; omega) _).far (by show w3.heap.size ≠ B9; omega) _)
      replace HBW := Lib.hid (show Below w.heap.size w W17 by rw [hW17]; exact (HBW.out.setCell (by show w.heap.size ≤ B9; omega) _).setCell (by show w.heap.size ≤ B9; omega) _)
      replace C9 := Lib.hid (show Cells W17 B9 _ [.bool FL, .slice A10 m9 c10] by rw [hW17]; exact (C9.out.set 0 _).set 1 _)
      clear hW17 p0 p1 f0 f1
      have p0 := C8.out.cell 0
      have p1 := C8.out.cell 1
      simp only [List.getElem?_cons_succ, List.getElem?_cons_zero] at p0 p1
      have q0 := C9.out.cell 0
      have q1 := C9.out.cell 1
      simp only [List.getElem?_cons_succ, List.getElem?_cons_zero] at q0 q1
      go_wp2_with fail
      refine (HMK.out _ _ _ (HS.out.below HBW.out (Nat.le_refl _)) TN.out TD.out).mono ?_
      rintro e w18 ⟨rfl, hb⟩
      replace CR := Lib.hid (CR.out.below hb CR.out.lt)
      replace HBW := Lib.hid (HBW.out.trans (hb.mono HBW.out.size))
      clear hb p0 p1 q0 q1
      have q0 := CR.out.cell 0
      have q1 := CR.out.cell 1
      have q2 := CR.out.free 0
      have q3 := CR.out.free 1
      simp only [List.getElem?_cons_succ, List.getElem?_cons_zero] at q0 q1
      have hbw2 := HBW.out
      go_wp2_with fail
      refine bodyPost_ret (v := .tuple #[.agg #[.string ⟨la.toArray⟩, .string ⟨lb.toArray⟩], .int .i64 0]) (by simp [results, Tryz.results98, go_sem, q0, q1]) rfl ⟨rfl, ?_⟩
      exact (hbw2.setCell (Nat.le_refl _) _).setCell (Nat.le_refl _) _

end Go.Proofs.YtagfnnongamneaaGreatDoor

namespace Go.Proofs.YtagfnnongamneaaGreatDoor
open Go.RowKit Go.Lib

set_option maxRecDepth 100000 in
set_option maxHeartbeats 8000000 in
theorem p03_sl_bad1 (s ta tb : List UInt8) (b : Bool) (w : World) (hS : Std w) (hl : s.length ≤ 400) (ht : (ta ++ 47 :: tb).length ≤ s.length) (hc : TpIs s (ta ++ 47 :: tb)) (hi : IdxIs (ta ++ 47 :: tb) ta.length) (ho : okDig ta = false) :
    Calls Tryz.prog 98 #[.string ⟨s.toArray⟩] w fun e w' => e = .returned (frdOut b (.bad 15)) ∧ Below w.heap.size w w' := by
  have htl : (ta ++ 47 :: tb).length = ta.length + 1 + tb.length := by simp; omega
  have hx1 : ∀ h, (⟨(ta ++ 47 :: tb).toArray⟩ : ByteArray)[ta.length]'h = 47 := by
    intro h
    rw [ba_at]
    simp
  have hx2 : (⟨(ta ++ 47 :: tb).toArray⟩ : ByteArray).extract 0 ta.length = ⟨ta.toArray⟩ := ba_ext (by rw [ext_eq]; simp)
  have hx3 : (⟨(ta ++ 47 :: tb).toArray⟩ : ByteArray).extract (ta.length + 1) (ta ++ 47 :: tb).length = ⟨tb.toArray⟩ := ba_ext (by rw [ext_eq, mk_toList, mk_toList, List.take_of_length_le (Nat.le_refl _), show ta ++ 47 :: tb = (ta ++ [47]) ++ tb by simp, List.drop_left' (by simp)])
  have hln : (ta ++ 47 :: tb).length ≤ 400 := by omega
  have hw1 : IntKind.i64.wrap ((ta.length : Int) + 1) = (ta.length : Int) + 1 := IntWalk.i64_in _ (by omega)
  have hw2 : ((ta.length : Int) + 1).toNat = ta.length + 1 := by omega
  have hw3 : (0 : Int) ≤ (ta.length : Int) + 1 := by omega
  have hw4 : (ta.length : Int) + 1 ≤ ((ta ++ 47 :: tb).length : Int) := by omega
  have hw5 : (ta.length : Int) ≤ ((ta ++ 47 :: tb).length : Int) := by omega
  have hw6 : (ta.length : Int) < ((ta ++ 47 :: tb).length : Int) := by omega
  have HC := Lib.hid hc
  have HI := Lib.hid hi
  have HS := Lib.hid hS
  have HOF := Lib.hid (fun W hW => of03_any 1 W hW (by omega) (by omega) (of_decide_eq_true (by kernel_rfl)))
  rw [show decide ((1 : Int) < 0) = false from rfl, show (1 : Int).natAbs = 1 from rfl, show (pcsI 1).length = 1 by rw [pcsI_len, pcs_one]; rfl] at HOF
  have HD1 := Lib.hid (fun W => digits03_any ta W (by omega))
  have hli : (s.length : Int) ≤ 400 := by omega
  rw [ho] at HD1
  rw [frdOut_bad]
  clear hc hi hS hl ht ho htl hx1
  generalize ta ++ 47 :: tb = t at *
  go_enter Tryz.func98, Tryz.ntmps98
  go_wp2_with fail
  refine (HC.out _).mono ?_
  rintro e w1 ⟨rfl, hb1⟩
  rw [World.size_alloc] at hb1
  have CR := Lib.hid (cells_of_below hb1)
  have HBW := Lib.hid (below_result hb1)
  clear hb1 HC
  go_wp2_with fail
  refine (HI.out _).mono ?_
  rintro e w2 ⟨rfl, hb⟩
  replace CR := Lib.hid (CR.out.below hb CR.out.lt)
  replace HBW := Lib.hid (HBW.out.trans (hb.mono HBW.out.size))
  clear hb HI
  go_wp2_with fail
  refine (HOF.out _ (HS.out.below HBW.out (Nat.le_refl _))).mono ?_
  rintro e w3 ⟨⟨A8, c8, rfl, ht8⟩, hb⟩
  replace CR := Lib.hid (CR.out.below hb CR.out.lt)
  replace HBW := Lib.hid (HBW.out.trans (hb.mono HBW.out.size))
  have TD := Lib.hid ht8
  clear hb ht8 HOF
  go_upto_region 6 with (fail)
  obtain ⟨W4, hW4⟩ : ∃ W4, W4 = w3.alloc (.cells #[.bool false, .slice A8 1 c8] 127) := ⟨_, rfl⟩
  have C8 : Hid (Cells W4 w3.heap.size 127 [.bool false, .slice A8 1 c8]) := Lib.hid (by rw [hW4]; exact Cells.new w3 _ _)
  have hb : Below w3.heap.size w3 W4 := by rw [hW4]; exact (Below.refl _ _).alloc (Nat.le_refl _) _
  rw [← hW4]
  have hz8 := CR.out.lt
  replace CR := Lib.hid (CR.out.below hb CR.out.lt)
  replace HBW := Lib.hid (HBW.out.trans (hb.mono HBW.out.size))
  replace TD := Lib.hid (TD.out.below hb)
  clear hb hW4
  go_wp2_with fail
  go_quiet (fail)
  obtain ⟨W5, hW5⟩ : ∃ W5, W5 = W4.drewN nq := ⟨_, rfl⟩
  have hb : Below W4.heap.size W4 W5 := by rw [hW5]; exact below_drewN (Below.refl _ _) _
  rw [← hW5]
  replace CR := Lib.hid (CR.out.below hb CR.out.lt)
  replace HBW := Lib.hid (HBW.out.trans (hb.mono HBW.out.size))
  clear hb hW5 hw1 hw2
  go_wp2_with fail
  refine (HD1.out _).mono ?_
  rintro e w6 ⟨rfl, rfl⟩
  have q0 := CR.out.cell 0
  have q1 := CR.out.cell 1
  have q2 := CR.out.free 0
  have q3 := CR.out.free 1
  simp only [List.getElem?_cons_succ, List.getElem?_cons_zero] at q0 q1
  have hbw2 := HBW.out
  go_wp2_with fail
  refine bodyPost_ret (v := .tuple #[.agg #[.string ⟨#[]⟩, .string ⟨#[]⟩], .int .i64 15]) (by simp [results, Tryz.results98, go_sem, q0, q1]) rfl ⟨rfl, ?_⟩
  exact (hbw2.setCell (Nat.le_refl _) _).setCell (Nat.le_refl _) _

set_option maxRecDepth 100000 in
set_option maxHeartbeats 8000000 in
theorem p03_sl_bad2 (s ta tb : List UInt8) (b : Bool) (w : World) (hS : Std w) (hl : s.length ≤ 400) (ht : (ta ++ 47 :: tb).length ≤ s.length) (hc : TpIs s (ta ++ 47 :: tb)) (hi : IdxIs (ta ++ 47 :: tb) ta.length) (ho : okDig ta = true) (ho2 : okDig tb = false) :
    Calls Tryz.prog 98 #[.string ⟨s.toArray⟩] w fun e w' => e = .returned (frdOut b (.bad 15)) ∧ Below w.heap.size w w' := by
  have htl : (ta ++ 47 :: tb).length = ta.length + 1 + tb.length := by simp; omega
  have hx1 : ∀ h, (⟨(ta ++ 47 :: tb).toArray⟩ : ByteArray)[ta.length]'h = 47 := by
    intro h
    rw [ba_at]
    simp
  have hx2 : (⟨(ta ++ 47 :: tb).toArray⟩ : ByteArray).extract 0 ta.length = ⟨ta.toArray⟩ := ba_ext (by rw [ext_eq]; simp)
  have hx3 : (⟨(ta ++ 47 :: tb).toArray⟩ : ByteArray).extract (ta.length + 1) (ta ++ 47 :: tb).length = ⟨tb.toArray⟩ := ba_ext (by rw [ext_eq, mk_toList, mk_toList, List.take_of_length_le (Nat.le_refl _), show ta ++ 47 :: tb = (ta ++ [47]) ++ tb by simp, List.drop_left' (by simp)])
  have hln : (ta ++ 47 :: tb).length ≤ 400 := by omega
  have hw1 : IntKind.i64.wrap ((ta.length : Int) + 1) = (ta.length : Int) + 1 := IntWalk.i64_in _ (by omega)
  have hw2 : ((ta.length : Int) + 1).toNat = ta.length + 1 := by omega
  have hw3 : (0 : Int) ≤ (ta.length : Int) + 1 := by omega
  have hw4 : (ta.length : Int) + 1 ≤ ((ta ++ 47 :: tb).length : Int) := by omega
  have hw5 : (ta.length : Int) ≤ ((ta ++ 47 :: tb).length : Int) := by omega
  have hw6 : (ta.length : Int) < ((ta ++ 47 :: tb).length : Int) := by omega
  have HC := Lib.hid hc
  have HI := Lib.hid hi
  have HS := Lib.hid hS
  have HOF := Lib.hid (fun W hW => of03_any 1 W hW (by omega) (by omega) (of_decide_eq_true (by kernel_rfl)))
  rw [show decide ((1 : Int) < 0) = false from rfl, show (1 : Int).natAbs = 1 from rfl, show (pcsI 1).length = 1 by rw [pcsI_len, pcs_one]; rfl] at HOF
  have HD1 := Lib.hid (fun W => digits03_any ta W (by omega))
  have hli : (s.length : Int) ≤ 400 := by omega
  have HD2 := Lib.hid (fun W => digits03_any tb W (by omega))
  rw [ho2] at HD2
  rw [ho] at HD1
  rw [frdOut_bad]
  clear hc hi hS hl ht ho htl hx1 ho2
  generalize ta ++ 47 :: tb = t at *
  go_enter Tryz.func98, Tryz.ntmps98
  go_wp2_with fail
  refine (HC.out _).mono ?_
  rintro e w1 ⟨rfl, hb1⟩
  rw [World.size_alloc] at hb1
  have CR := Lib.hid (cells_of_below hb1)
  have HBW := Lib.hid (below_result hb1)
  clear hb1 HC
  go_wp2_with fail
  refine (HI.out _).mono ?_
  rintro e w2 ⟨rfl, hb⟩
  replace CR := Lib.hid (CR.out.below hb CR.out.lt)
  replace HBW := Lib.hid (HBW.out.trans (hb.mono HBW.out.size))
  clear hb HI
  go_wp2_with fail
  refine (HOF.out _ (HS.out.below HBW.out (Nat.le_refl _))).mono ?_
  rintro e w3 ⟨⟨A8, c8, rfl, ht8⟩, hb⟩
  replace CR := Lib.hid (CR.out.below hb CR.out.lt)
  replace HBW := Lib.hid (HBW.out.trans (hb.mono HBW.out.size))
  have TD := Lib.hid ht8
  clear hb ht8 HOF
  go_upto_region 6 with (fail)
  obtain ⟨W4, hW4⟩ : ∃ W4, W4 = w3.alloc (.cells #[.bool false, .slice A8 1 c8] 127) := ⟨_, rfl⟩
  have C8 : Hid (Cells W4 w3.heap.size 127 [.bool false, .slice A8 1 c8]) := Lib.hid (by rw [hW4]; exact Cells.new w3 _ _)
  have hb : Below w3.heap.size w3 W4 := by rw [hW4]; exact (Below.refl _ _).alloc (Nat.le_refl _) _
  rw [← hW4]
  have hz8 := CR.out.lt
  replace CR := Lib.hid (CR.out.below hb CR.out.lt)
  replace HBW := Lib.hid (HBW.out.trans (hb.mono HBW.out.size))
  replace TD := Lib.hid (TD.out.below hb)
  clear hb hW4
  go_wp2_with fail
  go_quiet (fail)
  obtain ⟨W5, hW5⟩ : ∃ W5, W5 = W4.drewN nq := ⟨_, rfl⟩
  have hb : Below W4.heap.size W4 W5 := by rw [hW5]; exact below_drewN (Below.refl _ _) _
  rw [← hW5]
  replace CR := Lib.hid (CR.out.below hb CR.out.lt)
  replace HBW := Lib.hid (HBW.out.trans (hb.mono HBW.out.size))
  clear hb hW5 hw1 hw2
  go_wp2_with fail
  refine (HD1.out _).mono ?_
  rintro e w6 ⟨rfl, rfl⟩
  go_wp2_with fail
  refine (HD2.out _).mono ?_
  rintro e w7 ⟨rfl, rfl⟩
  have q0 := CR.out.cell 0
  have q1 := CR.out.cell 1
  have q2 := CR.out.free 0
  have q3 := CR.out.free 1
  simp only [List.getElem?_cons_succ, List.getElem?_cons_zero] at q0 q1
  have hbw2 := HBW.out
  go_wp2_with fail
  refine bodyPost_ret (v := .tuple #[.agg #[.string ⟨#[]⟩, .string ⟨#[]⟩], .int .i64 15]) (by simp [results, Tryz.results98, go_sem, q0, q1]) rfl ⟨rfl, ?_⟩
  exact (hbw2.setCell (Nat.le_refl _) _).setCell (Nat.le_refl _) _

set_option maxRecDepth 100000 in
set_option maxHeartbeats 8000000 in
theorem p03_sl_zero (s ta tb : List UInt8) (b : Bool) (w : World) (hS : Std w) (hl : s.length ≤ 400) (ht : (ta ++ 47 :: tb).length ≤ s.length) (hc : TpIs s (ta ++ 47 :: tb)) (hi : IdxIs (ta ++ 47 :: tb) ta.length) (ho : okDig ta = true) (ho2 : okDig tb = true) (hz : dval 0 tb = 0) :
    Calls Tryz.prog 98 #[.string ⟨s.toArray⟩] w fun e w' => e = .returned (frdOut b (.bad 17)) ∧ Below w.heap.size w w' := by
  have htl : (ta ++ 47 :: tb).length = ta.length + 1 + tb.length := by simp; omega
  have hx1 : ∀ h, (⟨(ta ++ 47 :: tb).toArray⟩ : ByteArray)[ta.length]'h = 47 := by
    intro h
    rw [ba_at]
    simp
  have hx2 : (⟨(ta ++ 47 :: tb).toArray⟩ : ByteArray).extract 0 ta.length = ⟨ta.toArray⟩ := ba_ext (by rw [ext_eq]; simp)
  have hx3 : (⟨(ta ++ 47 :: tb).toArray⟩ : ByteArray).extract (ta.length + 1) (ta ++ 47 :: tb).length = ⟨tb.toArray⟩ := ba_ext (by rw [ext_eq, mk_toList, mk_toList, List.take_of_length_le (Nat.le_refl _), show ta ++ 47 :: tb = (ta ++ [47]) ++ tb by simp, List.drop_left' (by simp)])
  have hln : (ta ++ 47 :: tb).length ≤ 400 := by omega
  have hw1 : IntKind.i64.wrap ((ta.length : Int) + 1) = (ta.length : Int) + 1 := IntWalk.i64_in _ (by omega)
  have hw2 : ((ta.length : Int) + 1).toNat = ta.length + 1 := by omega
  have hw3 : (0 : Int) ≤ (ta.length : Int) + 1 := by omega
  have hw4 : (ta.length : Int) + 1 ≤ ((ta ++ 47 :: tb).length : Int) := by omega
  have hw5 : (ta.length : Int) ≤ ((ta ++ 47 :: tb).length : Int) := by omega
  have hw6 : (ta.length : Int) < ((ta ++ 47 :: tb).length : Int) := by omega
  have HC := Lib.hid hc
  have HI := Lib.hid hi
  have HS := Lib.hid hS
  have HOF := Lib.hid (fun W hW => of03_any 1 W hW (by omega) (by omega) (of_decide_eq_true (by kernel_rfl)))
  rw [show decide ((1 : Int) < 0) = false from rfl, show (1 : Int).natAbs = 1 from rfl, show (pcsI 1).length = 1 by rw [pcsI_len, pcs_one]; rfl] at HOF
  have HD1 := Lib.hid (fun W => digits03_any ta W (by omega))
  have hli : (s.length : Int) ≤ 400 := by omega
  have HD2 := Lib.hid (fun W => digits03_any tb W (by omega))
  rw [ho2] at HD2
  rw [ho] at HD1
  have hda := dval_len ho
  have hdb := dval_len ho2
  have HNA := Lib.hid (fun W => number03_any ta W ho (by omega))
  have HNB := Lib.hid (fun W => number03_any tb W ho2 (by omega))
  have HSG := Lib.hid (fun v W h => sign03_any false v (pcsI 0) W h)
  rw [show sign03 false (pcsI 0) = 0 by unfold sign03; rw [if_pos (by rw [pcsI_zero]; rfl)]] at HSG
  rw [hz, pcs_zero] at HNB
  change Hid (∀ W, Calls _ _ _ W fun e w' => (∃ A c, e = .returned (.agg #[.bool false, .slice A 0 c]) ∧ TRow w' (.slice A 0 c) (pcsI 0)) ∧ Below W.heap.size W w') at HNB
  obtain ⟨m9, hm9⟩ : ∃ m9, (pcs (dval 0 ta)).length = m9 := ⟨_, rfl⟩
  rw [hm9] at HNA
  generalize dval 0 ta = N at *
  rw [frdOut_bad]
  clear hc hi hS hl ht ho ho2 htl hz hm9 hda hdb
  generalize ta ++ 47 :: tb = t at *
  go_enter Tryz.func98, Tryz.ntmps98
  go_wp2_with fail
  refine (HC.out _).mono ?_
  rintro e w1 ⟨rfl, hb1⟩
  rw [World.size_alloc] at hb1
  have CR := Lib.hid (cells_of_below hb1)
  have HBW := Lib.hid (below_result hb1)
  clear hb1 HC
  go_wp2_with fail
  refine (HI.out _).mono ?_
  rintro e w2 ⟨rfl, hb⟩
  replace CR := Lib.hid (CR.out.below hb CR.out.lt)
  replace HBW := Lib.hid (HBW.out.trans (hb.mono HBW.out.size))
  clear hb HI
  go_wp2_with fail
  refine (HOF.out _ (HS.out.below HBW.out (Nat.le_refl _))).mono ?_
  rintro e w3 ⟨⟨A8, c8, rfl, ht8⟩, hb⟩
  replace CR := Lib.hid (CR.out.below hb CR.out.lt)
  replace HBW := Lib.hid (HBW.out.trans (hb.mono HBW.out.size))
  have TD := Lib.hid ht8
  clear hb ht8 HOF
  go_upto_region 6 with (fail)
  obtain ⟨W4, hW4⟩ : ∃ W4, W4 = w3.alloc (.cells #[.bool false, .slice A8 1 c8] 127) := ⟨_, rfl⟩
  have C8 : Hid (Cells W4 w3.heap.size 127 [.bool false, .slice A8 1 c8]) := Lib.hid (by rw [hW4]; exact Cells.new w3 _ _)
  have hb : Below w3.heap.size w3 W4 := by rw [hW4]; exact (Below.refl _ _).alloc (Nat.le_refl _) _
  rw [← hW4]
  have hz8 := CR.out.lt
  replace CR := Lib.hid (CR.out.below hb CR.out.lt)
  replace HBW := Lib.hid (HBW.out.trans (hb.mono HBW.out.size))
  replace TD := Lib.hid (TD.out.below hb)
  clear hb hW4
  go_wp2_with fail
  go_quiet (fail)
  obtain ⟨W5, hW5⟩ : ∃ W5, W5 = W4.drewN nq := ⟨_, rfl⟩
  have hb : Below W4.heap.size W4 W5 := by rw [hW5]; exact below_drewN (Below.refl _ _) _
  rw [← hW5]
  replace CR := Lib.hid (CR.out.below hb CR.out.lt)
  replace C8 := Lib.hid (C8.out.below hb C8.out.lt)
  replace TD := Lib.hid (TD.out.below hb)
  replace HBW := Lib.hid (HBW.out.trans (hb.mono HBW.out.size))
  clear hb hW5 hw1 hw2
  go_wp2_with fail
  refine (HD1.out _).mono ?_
  rintro e w6 ⟨rfl, rfl⟩
  go_wp2_with fail
  refine (HD2.out _).mono ?_
  rintro e w7 ⟨rfl, rfl⟩
  go_wp2_with fail
  refine (HNA.out _).mono ?_
  rintro e w5 ⟨⟨A9, c9, rfl, ht9⟩, hb⟩
  replace CR := Lib.hid (CR.out.below hb CR.out.lt)
  replace C8 := Lib.hid (C8.out.below hb C8.out.lt)
  replace TD := Lib.hid (TD.out.below hb)
  replace HBW := Lib.hid (HBW.out.trans (hb.mono HBW.out.size))
  have TN := Lib.hid ht9
  clear hb ht9
  go_upto_region 11 with (fail)
  obtain ⟨W6, hW6⟩ : ∃ W6, W6 = w5.alloc (.cells #[.bool false, .slice A9 m9 c9] 127) := ⟨_, rfl⟩
  have C9 : Hid (Cells W6 w5.heap.size 127 [.bool false, .slice A9 m9 c9]) := Lib.hid (by rw [hW6]; exact Cells.new w5 _ _)
  have hb : Below w5.heap.size w5 W6 := by rw [hW6]; exact (Below.refl _ _).alloc (Nat.le_refl _) _
  rw [← hW6]
  have hz9 := C8.out.lt
  replace CR := Lib.hid (CR.out.below hb CR.out.lt)
  replace C8 := Lib.hid (C8.out.below hb C8.out.lt)
  replace TD := Lib.hid (TD.out.below hb)
  replace TN := Lib.hid (TN.out.below hb)
  replace HBW := Lib.hid (HBW.out.trans (hb.mono HBW.out.size))
  clear hb hW6
  obtain ⟨B9, hB9⟩ : ∃ B9, w5.heap.size = B9 := ⟨_, rfl⟩
  rw [hB9] at C9 hz9
  rw [hB9]
  clear hB9
  go_wp2_with fail
  refine (HNB.out _).mono ?_
  rintro e w8 ⟨⟨A12, c12, rfl, ht12⟩, hb⟩
  replace CR := Lib.hid (CR.out.below hb CR.out.lt)
  replace C8 := Lib.hid (C8.out.below hb C8.out.lt)
  replace C9 := Lib.hid (C9.out.below hb C9.out.lt)
  replace TN := Lib.hid (TN.out.below hb)
  replace HBW := Lib.hid (HBW.out.trans (hb.mono HBW.out.size))
  clear hb
  have p0 := C8.out.cell 0
  have p1 := C8.out.cell 1
  have f0 := C8.out.free 0
  have f1 := C8.out.free 1
  simp only [List.getElem?_cons_succ, List.getElem?_cons_zero] at p0 p1
  go_upto_region 13 with (fail)
  obtain ⟨W9, hW9⟩ : ∃ W9, W9 = (w8.setCell ⟨w3.heap.size, 0, Option.none⟩ (.bool false)).setCell ⟨w3.heap.size, 1, Option.none⟩ (.slice A12 0 c12) := ⟨_, rfl⟩
  rw [← hW9]
  replace TN := Lib.hid (show TRow W9 _ _ by rw [hW9]; exact (TN.out.set C8.out (by decide) _).set (C8.out.set 0 _) (by decide) _)
  replace TD := Lib.hid (show TRow W9 _ _ by rw [hW9]; exact (ht12.set C8.out (by decide) _).set (C8.out.set 0 _) (by decide) _)
  replace CR := Lib.hid (show Cells W9 _ _ _ by rw [hW9]; exact (CR.out.far (by show w.heap.size ≠ w3.heap.size; omega) _).far (by show w.heap.size ≠ w3.heap.size; omega) _)
  replace C9 := Lib.hid (show Cells W9 _ _ _ by rw [hW9]; exact (C9.out.far (by show B9 ≠ w3.heap.size; omega) _).far (by show B9 ≠ w3.heap.size; omega) _)
  replace HBW := Lib.hid (show Below w.heap.size w W9 by rw [hW9]; exact (HBW.out.setCell (by show w.heap.size ≤ w3.heap.size; omega) _).setCell (by show w.heap.size ≤ w3.heap.size; omega) _)
  replace C8 := Lib.hid (show Cells W9 w3.heap.size _ [.bool false, .slice A12 0 c12] by rw [hW9]; exact (C8.out.set 0 _).set 1 _)
  clear hW9 p0 p1 f0 f1 ht12
  have p0 := C8.out.cell 0
  have p1 := C8.out.cell 1
  simp only [List.getElem?_cons_succ, List.getElem?_cons_zero] at p0 p1
  go_wp2_with fail
  refine (HSG.out _ _ TD.out.isRow).mono ?_
  rintro e w15 ⟨rfl, hb⟩
  replace CR := Lib.hid (CR.out.below hb CR.out.lt)
  replace HBW := Lib.hid (HBW.out.trans (hb.mono HBW.out.size))
  clear hb p0 p1
  have q0 := CR.out.cell 0
  have q1 := CR.out.cell 1
  have q2 := CR.out.free 0
  have q3 := CR.out.free 1
  simp only [List.getElem?_cons_succ, List.getElem?_cons_zero] at q0 q1
  have hbw2 := HBW.out
  go_wp2_with fail
  refine bodyPost_ret (v := .tuple #[.agg #[.string ⟨#[]⟩, .string ⟨#[]⟩], .int .i64 17]) (by simp [results, Tryz.results98, go_sem, q0, q1]) rfl ⟨rfl, ?_⟩
  exact (hbw2.setCell (Nat.le_refl _) _).setCell (Nat.le_refl _) _

set_option maxRecDepth 100000 in
set_option maxHeartbeats 8000000 in
theorem p03_sl_pos (s ta tb : List UInt8) (w : World) (hS : Std w) (hl : s.length ≤ 400) (ht : (ta ++ 47 :: tb).length ≤ s.length) (hb : ¬ (ta ++ 47 :: tb).length < s.length) (hc : TpIs s (ta ++ 47 :: tb)) (hi : IdxIs (ta ++ 47 :: tb) ta.length) (ho : okDig ta = true) (ho2 : okDig tb = true) (hz : 0 < dval 0 tb) :
    Calls Tryz.prog 98 #[.string ⟨s.toArray⟩] w fun e w' => e = .returned (frdOut false (.good (dval 0 ta) (dval 0 tb))) ∧ Below w.heap.size w w' := by
  have htl : (ta ++ 47 :: tb).length = ta.length + 1 + tb.length := by simp; omega
  have hx1 : ∀ h, (⟨(ta ++ 47 :: tb).toArray⟩ : ByteArray)[ta.length]'h = 47 := by
    intro h
    rw [ba_at]
    simp
  have hx2 : (⟨(ta ++ 47 :: tb).toArray⟩ : ByteArray).extract 0 ta.length = ⟨ta.toArray⟩ := ba_ext (by rw [ext_eq]; simp)
  have hx3 : (⟨(ta ++ 47 :: tb).toArray⟩ : ByteArray).extract (ta.length + 1) (ta ++ 47 :: tb).length = ⟨tb.toArray⟩ := ba_ext (by rw [ext_eq, mk_toList, mk_toList, List.take_of_length_le (Nat.le_refl _), show ta ++ 47 :: tb = (ta ++ [47]) ++ tb by simp, List.drop_left' (by simp)])
  have hln : (ta ++ 47 :: tb).length ≤ 400 := by omega
  have hw1 : IntKind.i64.wrap ((ta.length : Int) + 1) = (ta.length : Int) + 1 := IntWalk.i64_in _ (by omega)
  have hw2 : ((ta.length : Int) + 1).toNat = ta.length + 1 := by omega
  have hw3 : (0 : Int) ≤ (ta.length : Int) + 1 := by omega
  have hw4 : (ta.length : Int) + 1 ≤ ((ta ++ 47 :: tb).length : Int) := by omega
  have hw5 : (ta.length : Int) ≤ ((ta ++ 47 :: tb).length : Int) := by omega
  have hw6 : (ta.length : Int) < ((ta ++ 47 :: tb).length : Int) := by omega
  have HC := Lib.hid hc
  have HI := Lib.hid hi
  have HS := Lib.hid hS
  have HOF := Lib.hid (fun W hW => of03_any 1 W hW (by omega) (by omega) (of_decide_eq_true (by kernel_rfl)))
  rw [show decide ((1 : Int) < 0) = false from rfl, show (1 : Int).natAbs = 1 from rfl, show (pcsI 1).length = 1 by rw [pcsI_len, pcs_one]; rfl] at HOF
  have HD1 := Lib.hid (fun W => digits03_any ta W (by omega))
  have hli : (s.length : Int) ≤ 400 := by omega
  have HD2 := Lib.hid (fun W => digits03_any tb W (by omega))
  rw [ho2] at HD2
  rw [ho] at HD1
  have hda := dval_len ho
  have hdb := dval_len ho2
  have HNA := Lib.hid (fun W => number03_any ta W ho (by omega))
  have HNB := Lib.hid (fun W => number03_any tb W ho2 (by omega))
  obtain ⟨N, hN⟩ : ∃ N, dval 0 ta = N := ⟨_, rfl⟩
  obtain ⟨D, hD⟩ : ∃ D, dval 0 tb = D := ⟨_, rfl⟩
  rw [hN] at hda HNA ⊢
  rw [hD] at hdb hz HNB ⊢
  have HSG := Lib.hid (fun v W h => sign03_any false v (pcsI D) W h)
  rw [show sign03 false (pcsI D) = 1 by unfold sign03; rw [if_neg (by rw [pcsI_len, pcs_pos hz]; simp)]; rfl] at HSG
  have HNG := Lib.hid (fun v W h => negW03_any false v N W h)
  have HMK := Lib.hid (fun fl va vb W hfl hW h1 h2 => make_read false fl N D va vb W hW hfl h1 h2 hz (by omega) (by omega))
  rw [frdOut_good]
  generalize itoa (lowN (sgnd false N) (D : Int)) = la at *
  generalize itoa (lowD (sgnd false N) (D : Int)) = lb at *
  obtain ⟨m9, hm9⟩ : ∃ m9, (pcs N).length = m9 := ⟨_, rfl⟩
  obtain ⟨m8, hm8⟩ : ∃ m8, (pcs D).length = m8 := ⟨_, rfl⟩
  rw [hm9] at HNA HNG
  rw [hm8] at HNB
  have hbl : ¬ ((ta ++ 47 :: tb).length : Int) < (s.length : Int) := by omega
  replace HMK := Lib.hid (fun va vb W hW h1 h2 => HMK.out false va vb W rfl hW h1 h2)
  clear HNG
  clear hc hi hS hl ht ho ho2 htl hz hm9 hm8 hda hdb hN hD hb
  generalize ta ++ 47 :: tb = t at *
  go_enter Tryz.func98, Tryz.ntmps98
  go_wp2_with fail
  refine (HC.out _).mono ?_
  rintro e w1 ⟨rfl, hb1⟩
  rw [World.size_alloc] at hb1
  have CR := Lib.hid (cells_of_below hb1)
  have HBW := Lib.hid (below_result hb1)
  clear hb1 HC
  go_wp2_with fail
  refine (HI.out _).mono ?_
  rintro e w2 ⟨rfl, hb⟩
  replace CR := Lib.hid (CR.out.below hb CR.out.lt)
  replace HBW := Lib.hid (HBW.out.trans (hb.mono HBW.out.size))
  clear hb HI
  go_wp2_with fail
  refine (HOF.out _ (HS.out.below HBW.out (Nat.le_refl _))).mono ?_
  rintro e w3 ⟨⟨A8, c8, rfl, ht8⟩, hb⟩
  replace CR := Lib.hid (CR.out.below hb CR.out.lt)
  replace HBW := Lib.hid (HBW.out.trans (hb.mono HBW.out.size))
  have TD := Lib.hid ht8
  clear hb ht8 HOF
  go_upto_region 6 with (fail)
  obtain ⟨W4, hW4⟩ : ∃ W4, W4 = w3.alloc (.cells #[.bool false, .slice A8 1 c8] 127) := ⟨_, rfl⟩
  have C8 : Hid (Cells W4 w3.heap.size 127 [.bool false, .slice A8 1 c8]) := Lib.hid (by rw [hW4]; exact Cells.new w3 _ _)
  have hb : Below w3.heap.size w3 W4 := by rw [hW4]; exact (Below.refl _ _).alloc (Nat.le_refl _) _
  rw [← hW4]
  have hz8 := CR.out.lt
  replace CR := Lib.hid (CR.out.below hb CR.out.lt)
  replace HBW := Lib.hid (HBW.out.trans (hb.mono HBW.out.size))
  replace TD := Lib.hid (TD.out.below hb)
  clear hb hW4
  go_wp2_with fail
  go_quiet (fail)
  obtain ⟨W5, hW5⟩ : ∃ W5, W5 = W4.drewN nq := ⟨_, rfl⟩
  have hb : Below W4.heap.size W4 W5 := by rw [hW5]; exact below_drewN (Below.refl _ _) _
  rw [← hW5]
  replace CR := Lib.hid (CR.out.below hb CR.out.lt)
  replace C8 := Lib.hid (C8.out.below hb C8.out.lt)
  replace TD := Lib.hid (TD.out.below hb)
  replace HBW := Lib.hid (HBW.out.trans (hb.mono HBW.out.size))
  clear hb hW5 hw1 hw2
  go_wp2_with fail
  refine (HD1.out _).mono ?_
  rintro e w6 ⟨rfl, rfl⟩
  go_wp2_with fail
  refine (HD2.out _).mono ?_
  rintro e w7 ⟨rfl, rfl⟩
  go_wp2_with fail
  refine (HNA.out _).mono ?_
  rintro e w5 ⟨⟨A9, c9, rfl, ht9⟩, hb⟩
  replace CR := Lib.hid (CR.out.below hb CR.out.lt)
  replace C8 := Lib.hid (C8.out.below hb C8.out.lt)
  replace TD := Lib.hid (TD.out.below hb)
  replace HBW := Lib.hid (HBW.out.trans (hb.mono HBW.out.size))
  have TN := Lib.hid ht9
  clear hb ht9
  go_upto_region 11 with (fail)
  obtain ⟨W6, hW6⟩ : ∃ W6, W6 = w5.alloc (.cells #[.bool false, .slice A9 m9 c9] 127) := ⟨_, rfl⟩
  have C9 : Hid (Cells W6 w5.heap.size 127 [.bool false, .slice A9 m9 c9]) := Lib.hid (by rw [hW6]; exact Cells.new w5 _ _)
  have hb : Below w5.heap.size w5 W6 := by rw [hW6]; exact (Below.refl _ _).alloc (Nat.le_refl _) _
  rw [← hW6]
  have hz9 := C8.out.lt
  replace CR := Lib.hid (CR.out.below hb CR.out.lt)
  replace C8 := Lib.hid (C8.out.below hb C8.out.lt)
  replace TD := Lib.hid (TD.out.below hb)
  replace TN := Lib.hid (TN.out.below hb)
  replace HBW := Lib.hid (HBW.out.trans (hb.mono HBW.out.size))
  clear hb hW6
  obtain ⟨B9, hB9⟩ : ∃ B9, w5.heap.size = B9 := ⟨_, rfl⟩
  rw [hB9] at C9 hz9
  rw [hB9]
  clear hB9
  go_wp2_with fail
  refine (HNB.out _).mono ?_
  rintro e w8 ⟨⟨A12, c12, rfl, ht12⟩, hb⟩
  replace CR := Lib.hid (CR.out.below hb CR.out.lt)
  replace C8 := Lib.hid (C8.out.below hb C8.out.lt)
  replace C9 := Lib.hid (C9.out.below hb C9.out.lt)
  replace TN := Lib.hid (TN.out.below hb)
  replace HBW := Lib.hid (HBW.out.trans (hb.mono HBW.out.size))
  clear hb
  have p0 := C8.out.cell 0
  have p1 := C8.out.cell 1
  have f0 := C8.out.free 0
  have f1 := C8.out.free 1
  simp only [List.getElem?_cons_succ, List.getElem?_cons_zero] at p0 p1
  go_upto_region 13 with (fail)
  obtain ⟨W9, hW9⟩ : ∃ W9, W9 = (w8.setCell ⟨w3.heap.size, 0, Option.none⟩ (.bool false)).setCell ⟨w3.heap.size, 1, Option.none⟩ (.slice A12 m8 c12) := ⟨_, rfl⟩
  rw [← hW9]
  replace TN := Lib.hid (show TRow W9 _ _ by rw [hW9]; exact (TN.out.set C8.out (by decide) _).set (C8.out.set 0 _) (by decide) _)
  replace TD := Lib.hid (show TRow W9 _ _ by rw [hW9]; exact (ht12.set C8.out (by decide) _).set (C8.out.set 0 _) (by decide) _)
  replace CR := Lib.hid (show Cells W9 _ _ _ by rw [hW9]; exact (CR.out.far (by show w.heap.size ≠ w3.heap.size; omega) _).far (by show w.heap.size ≠ w3.heap.size; omega) _)
  replace C9 := Lib.hid (show Cells W9 _ _ _ by rw [hW9]; exact (C9.out.far (by show B9 ≠ w3.heap.size; omega) _).far (by show B9 ≠ w3.heap.size; omega) _)
  replace HBW := Lib.hid (show Below w.heap.size w W9 by rw [hW9]; exact (HBW.out.setCell (by show w.heap.size ≤ w3.heap.size; omega) _).setCell (by show w.heap.size ≤ w3.heap.size; omega) _)
  replace C8 := Lib.hid (show Cells W9 w3.heap.size _ [.bool false, .slice A12 m8 c12] by rw [hW9]; exact (C8.out.set 0 _).set 1 _)
  clear hW9 p0 p1 f0 f1 ht12
  have p0 := C8.out.cell 0
  have p1 := C8.out.cell 1
  simp only [List.getElem?_cons_succ, List.getElem?_cons_zero] at p0 p1
  go_wp2_with fail
  refine (HSG.out _ _ TD.out.isRow).mono ?_
  rintro e w15 ⟨rfl, hb⟩
  replace CR := Lib.hid (CR.out.below hb CR.out.lt)
  replace C8 := Lib.hid (C8.out.below hb C8.out.lt)
  replace C9 := Lib.hid (C9.out.below hb C9.out.lt)
  replace TD := Lib.hid (TD.out.below hb)
  replace TN := Lib.hid (TN.out.below hb)
  replace HBW := Lib.hid (HBW.out.trans (hb.mono HBW.out.size))
  clear hb p0 p1
  have p0 := C8.out.cell 0
  have p1 := C8.out.cell 1
  simp only [List.getElem?_cons_succ, List.getElem?_cons_zero] at p0 p1
  have q0 := C9.out.cell 0
  have q1 := C9.out.cell 1
  simp only [List.getElem?_cons_succ, List.getElem?_cons_zero] at q0 q1
  go_wp2_with fail
  refine (HMK.out _ _ _ (HS.out.below HBW.out (Nat.le_refl _)) TN.out TD.out).mono ?_
  rintro e w18 ⟨rfl, hb⟩
  replace CR := Lib.hid (CR.out.below hb CR.out.lt)
  replace HBW := Lib.hid (HBW.out.trans (hb.mono HBW.out.size))
  clear hb p0 p1 q0 q1
  have q0 := CR.out.cell 0
  have q1 := CR.out.cell 1
  have q2 := CR.out.free 0
  have q3 := CR.out.free 1
  simp only [List.getElem?_cons_succ, List.getElem?_cons_zero] at q0 q1
  have hbw2 := HBW.out
  go_wp2_with fail
  refine bodyPost_ret (v := .tuple #[.agg #[.string ⟨la.toArray⟩, .string ⟨lb.toArray⟩], .int .i64 0]) (by simp [results, Tryz.results98, go_sem, q0, q1]) rfl ⟨rfl, ?_⟩
  exact (hbw2.setCell (Nat.le_refl _) _).setCell (Nat.le_refl _) _

set_option maxRecDepth 100000 in
set_option maxHeartbeats 8000000 in
theorem p03_sl_neg (s ta tb : List UInt8) (w : World) (hS : Std w) (hl : s.length ≤ 400) (hb : (ta ++ 47 :: tb).length < s.length) (hc : TpIs s (ta ++ 47 :: tb)) (hi : IdxIs (ta ++ 47 :: tb) ta.length) (ho : okDig ta = true) (ho2 : okDig tb = true) (hz : 0 < dval 0 tb) :
    Calls Tryz.prog 98 #[.string ⟨s.toArray⟩] w fun e w' => e = .returned (frdOut true (.good (dval 0 ta) (dval 0 tb))) ∧ Below w.heap.size w w' := by
  have htl : (ta ++ 47 :: tb).length = ta.length + 1 + tb.length := by simp; omega
  have hx1 : ∀ h, (⟨(ta ++ 47 :: tb).toArray⟩ : ByteArray)[ta.length]'h = 47 := by
    intro h
    rw [ba_at]
    simp
  have hx2 : (⟨(ta ++ 47 :: tb).toArray⟩ : ByteArray).extract 0 ta.length = ⟨ta.toArray⟩ := ba_ext (by rw [ext_eq]; simp)
  have hx3 : (⟨(ta ++ 47 :: tb).toArray⟩ : ByteArray).extract (ta.length + 1) (ta ++ 47 :: tb).length = ⟨tb.toArray⟩ := ba_ext (by rw [ext_eq, mk_toList, mk_toList, List.take_of_length_le (Nat.le_refl _), show ta ++ 47 :: tb = (ta ++ [47]) ++ tb by simp, List.drop_left' (by simp)])
  have hln : (ta ++ 47 :: tb).length ≤ 400 := by omega
  have hw1 : IntKind.i64.wrap ((ta.length : Int) + 1) = (ta.length : Int) + 1 := IntWalk.i64_in _ (by omega)
  have hw2 : ((ta.length : Int) + 1).toNat = ta.length + 1 := by omega
  have hw3 : (0 : Int) ≤ (ta.length : Int) + 1 := by omega
  have hw4 : (ta.length : Int) + 1 ≤ ((ta ++ 47 :: tb).length : Int) := by omega
  have hw5 : (ta.length : Int) ≤ ((ta ++ 47 :: tb).length : Int) := by omega
  have hw6 : (ta.length : Int) < ((ta ++ 47 :: tb).length : Int) := by omega
  have HC := Lib.hid hc
  have HI := Lib.hid hi
  have HS := Lib.hid hS
  have HOF := Lib.hid (fun W hW => of03_any 1 W hW (by omega) (by omega) (of_decide_eq_true (by kernel_rfl)))
  rw [show decide ((1 : Int) < 0) = false from rfl, show (1 : Int).natAbs = 1 from rfl, show (pcsI 1).length = 1 by rw [pcsI_len, pcs_one]; rfl] at HOF
  have HD1 := Lib.hid (fun W => digits03_any ta W (by omega))
  have hli : (s.length : Int) ≤ 400 := by omega
  have HD2 := Lib.hid (fun W => digits03_any tb W (by omega))
  rw [ho2] at HD2
  rw [ho] at HD1
  have hda := dval_len ho
  have hdb := dval_len ho2
  have HNA := Lib.hid (fun W => number03_any ta W ho (by omega))
  have HNB := Lib.hid (fun W => number03_any tb W ho2 (by omega))
  obtain ⟨N, hN⟩ : ∃ N, dval 0 ta = N := ⟨_, rfl⟩
  obtain ⟨D, hD⟩ : ∃ D, dval 0 tb = D := ⟨_, rfl⟩
  rw [hN] at hda HNA ⊢
  rw [hD] at hdb hz HNB ⊢
  have HSG := Lib.hid (fun v W h => sign03_any false v (pcsI D) W h)
  rw [show sign03 false (pcsI D) = 1 by unfold sign03; rw [if_neg (by rw [pcsI_len, pcs_pos hz]; simp)]; rfl] at HSG
  have HNG := Lib.hid (fun v W h => negW03_any false v N W h)
  have HMK := Lib.hid (fun fl va vb W hfl hW h1 h2 => make_read true fl N D va vb W hW hfl h1 h2 hz (by omega) (by omega))
  rw [frdOut_good]
  generalize itoa (lowN (sgnd true N) (D : Int)) = la at *
  generalize itoa (lowD (sgnd true N) (D : Int)) = lb at *
  obtain ⟨m9, hm9⟩ : ∃ m9, (pcs N).length = m9 := ⟨_, rfl⟩
  obtain ⟨m8, hm8⟩ : ∃ m8, (pcs D).length = m8 := ⟨_, rfl⟩
  rw [hm9] at HNA HNG
  rw [hm8] at HNB
  have hbl : ((ta ++ 47 :: tb).length : Int) < (s.length : Int) := by omega
  obtain ⟨FL, hFL⟩ : ∃ FL : Bool, (!false && decide (0 < N)) = FL := ⟨_, rfl⟩
  rw [hFL] at HNG
  replace HMK := Lib.hid (fun va vb W hW h1 h2 => HMK.out FL va vb W hFL.symm hW h1 h2)
  clear hFL
  clear hc hi hS hl ho ho2 htl hz hm9 hm8 hda hdb hN hD hb
  generalize ta ++ 47 :: tb = t at *
  go_enter Tryz.func98, Tryz.ntmps98
  go_wp2_with fail
  refine (HC.out _).mono ?_
  rintro e w1 ⟨rfl, hb1⟩
  rw [World.size_alloc] at hb1
  have CR := Lib.hid (cells_of_below hb1)
  have HBW := Lib.hid (below_result hb1)
  clear hb1 HC
  go_wp2_with fail
  refine (HI.out _).mono ?_
  rintro e w2 ⟨rfl, hb⟩
  replace CR := Lib.hid (CR.out.below hb CR.out.lt)
  replace HBW := Lib.hid (HBW.out.trans (hb.mono HBW.out.size))
  clear hb HI
  go_wp2_with fail
  refine (HOF.out _ (HS.out.below HBW.out (Nat.le_refl _))).mono ?_
  rintro e w3 ⟨⟨A8, c8, rfl, ht8⟩, hb⟩
  replace CR := Lib.hid (CR.out.below hb CR.out.lt)
  replace HBW := Lib.hid (HBW.out.trans (hb.mono HBW.out.size))
  have TD := Lib.hid ht8
  clear hb ht8 HOF
  go_upto_region 6 with (fail)
  obtain ⟨W4, hW4⟩ : ∃ W4, W4 = w3.alloc (.cells #[.bool false, .slice A8 1 c8] 127) := ⟨_, rfl⟩
  have C8 : Hid (Cells W4 w3.heap.size 127 [.bool false, .slice A8 1 c8]) := Lib.hid (by rw [hW4]; exact Cells.new w3 _ _)
  have hb : Below w3.heap.size w3 W4 := by rw [hW4]; exact (Below.refl _ _).alloc (Nat.le_refl _) _
  rw [← hW4]
  have hz8 := CR.out.lt
  replace CR := Lib.hid (CR.out.below hb CR.out.lt)
  replace HBW := Lib.hid (HBW.out.trans (hb.mono HBW.out.size))
  replace TD := Lib.hid (TD.out.below hb)
  clear hb hW4
  go_wp2_with fail
  go_quiet (fail)
  obtain ⟨W5, hW5⟩ : ∃ W5, W5 = W4.drewN nq := ⟨_, rfl⟩
  have hb : Below W4.heap.size W4 W5 := by rw [hW5]; exact below_drewN (Below.refl _ _) _
  rw [← hW5]
  replace CR := Lib.hid (CR.out.below hb CR.out.lt)
  replace C8 := Lib.hid (C8.out.below hb C8.out.lt)
  replace TD := Lib.hid (TD.out.below hb)
  replace HBW := Lib.hid (HBW.out.trans (hb.mono HBW.out.size))
  clear hb hW5 hw1 hw2
  go_wp2_with fail
  refine (HD1.out _).mono ?_
  rintro e w6 ⟨rfl, rfl⟩
  go_wp2_with fail
  refine (HD2.out _).mono ?_
  rintro e w7 ⟨rfl, rfl⟩
  go_wp2_with fail
  refine (HNA.out _).mono ?_
  rintro e w5 ⟨⟨A9, c9, rfl, ht9⟩, hb⟩
  replace CR := Lib.hid (CR.out.below hb CR.out.lt)
  replace C8 := Lib.hid (C8.out.below hb C8.out.lt)
  replace TD := Lib.hid (TD.out.below hb)
  replace HBW := Lib.hid (HBW.out.trans (hb.mono HBW.out.size))
  have TN := Lib.hid ht9
  clear hb ht9
  go_upto_region 11 with (fail)
  obtain ⟨W6, hW6⟩ : ∃ W6, W6 = w5.alloc (.cells #[.bool false, .slice A9 m9 c9] 127) := ⟨_, rfl⟩
  have C9 : Hid (Cells W6 w5.heap.size 127 [.bool false, .slice A9 m9 c9]) := Lib.hid (by rw [hW6]; exact Cells.new w5 _ _)
  have hb : Below w5.heap.size w5 W6 := by rw [hW6]; exact (Below.refl _ _).alloc (Nat.le_refl _) _
  rw [← hW6]
  have hz9 := C8.out.lt
  replace CR := Lib.hid (CR.out.below hb CR.out.lt)
  replace C8 := Lib.hid (C8.out.below hb C8.out.lt)
  replace TD := Lib.hid (TD.out.below hb)
  replace TN := Lib.hid (TN.out.below hb)
  replace HBW := Lib.hid (HBW.out.trans (hb.mono HBW.out.size))
  clear hb hW6
  obtain ⟨B9, hB9⟩ : ∃ B9, w5.heap.size = B9 := ⟨_, rfl⟩
  rw [hB9] at C9 hz9
  rw [hB9]
  clear hB9
  go_wp2_with fail
  refine (HNB.out _).mono ?_
  rintro e w8 ⟨⟨A12, c12, rfl, ht12⟩, hb⟩
  replace CR := Lib.hid (CR.out.below hb CR.out.lt)
  replace C8 := Lib.hid (C8.out.below hb C8.out.lt)
  replace C9 := Lib.hid (C9.out.below hb C9.out.lt)
  replace TN := Lib.hid (TN.out.below hb)
  replace HBW := Lib.hid (HBW.out.trans (hb.mono HBW.out.size))
  clear hb
  have p0 := C8.out.cell 0
  have p1 := C8.out.cell 1
  have f0 := C8.out.free 0
  have f1 := C8.out.free 1
  simp only [List.getElem?_cons_succ, List.getElem?_cons_zero] at p0 p1
  go_upto_region 13 with (fail)
  obtain ⟨W9, hW9⟩ : ∃ W9, W9 = (w8.setCell ⟨w3.heap.size, 0, Option.none⟩ (.bool false)).setCell ⟨w3.heap.size, 1, Option.none⟩ (.slice A12 m8 c12) := ⟨_, rfl⟩
  rw [← hW9]
  replace TN := Lib.hid (show TRow W9 _ _ by rw [hW9]; exact (TN.out.set C8.out (by decide) _).set (C8.out.set 0 _) (by decide) _)
  replace TD := Lib.hid (show TRow W9 _ _ by rw [hW9]; exact (ht12.set C8.out (by decide) _).set (C8.out.set 0 _) (by decide) _)
  replace CR := Lib.hid (show Cells W9 _ _ _ by rw [hW9]; exact (CR.out.far (by show w.heap.size ≠ w3.heap.size; omega) _).far (by show w.heap.size ≠ w3.heap.size; omega) _)
  replace C9 := Lib.hid (show Cells W9 _ _ _ by rw [hW9]; exact (C9.out.far (by show B9 ≠ w3.heap.size; omega) _).far (by show B9 ≠ w3.heap.size; omega) _)
  replace HBW := Lib.hid (show Below w.heap.size w W9 by rw [hW9]; exact (HBW.out.setCell (by show w.heap.size ≤ w3.heap.size; omega) _).setCell (by show w.heap.size ≤ w3.heap.size; omega) _)
  replace C8 := Lib.hid (show Cells W9 w3.heap.size _ [.bool false, .slice A12 m8 c12] by rw [hW9]; exact (C8.out.set 0 _).set 1 _)
  clear hW9 p0 p1 f0 f1 ht12
  have p0 := C8.out.cell 0
  have p1 := C8.out.cell 1
  simp only [List.getElem?_cons_succ, List.getElem?_cons_zero] at p0 p1
  go_wp2_with fail
  refine (HSG.out _ _ TD.out.isRow).mono ?_
  rintro e w15 ⟨rfl, hb⟩
  replace CR := Lib.hid (CR.out.below hb CR.out.lt)
  replace C8 := Lib.hid (C8.out.below hb C8.out.lt)
  replace C9 := Lib.hid (C9.out.below hb C9.out.lt)
  replace TD := Lib.hid (TD.out.below hb)
  replace TN := Lib.hid (TN.out.below hb)
  replace HBW := Lib.hid (HBW.out.trans (hb.mono HBW.out.size))
  clear hb p0 p1
  have p0 := C9.out.cell 0
  have p1 := C9.out.cell 1
  simp only [List.getElem?_cons_succ, List.getElem?_cons_zero] at p0 p1
  go_wp2_with fail
  refine (HNG.out _ _ TN.out).mono ?_
  rintro e w16 ⟨⟨A10, c10, rfl, ht10⟩, hb⟩
  replace CR := Lib.hid (CR.out.below hb CR.out.lt)
  replace C8 := Lib.hid (C8.out.below hb C8.out.lt)
  replace C9 := Lib.hid (C9.out.below hb C9.out.lt)
  replace TD := Lib.hid (TD.out.below hb)
  replace HBW := Lib.hid (HBW.out.trans (hb.mono HBW.out.size))
  replace TN := Lib.hid ht10
  clear hb ht10 p0 p1
  have p0 := C9.out.cell 0
  have p1 := C9.out.cell 1
  have f0 := C9.out.free 0
  have f1 := C9.out.free 1
  simp only [List.getElem?_cons_succ, List.getElem?_cons_zero] at p0 p1
  go_upto_region 19 with (fail)
  obtain ⟨W17, hW17⟩ : ∃ W17, W17 = (w16.setCell ⟨B9, 0, Option.none⟩ (.bool FL)).setCell ⟨B9, 1, Option.none⟩ (.slice A10 m9 c10) := ⟨_, rfl⟩
  rw [← hW17]
  replace TN := Lib.hid (show TRow W17 _ _ by rw [hW17]; exact (TN.out.set C9.out (by decide) _).set (C9.out.set 0 _) (by decide) _)
  replace TD := Lib.hid (show TRow W17 _ _ by rw [hW17]; exact (TD.out.set C9.out (by decide) _).set (C9.out.set 0 _) (by decide) _)
  replace CR := Lib.hid (show Cells W17 _ _ _ by rw [hW17]; exact (CR.out.far (by show w.heap.size ≠ B9; omega) _).far (by show w.heap.size ≠ B9; omega) _)
  replace C8 := Lib.hid (show Cells W17 _ _ _ by rw [hW17]; exact (C8.out.far (by show w3.heap.size ≠ B9; omega) _).far (by show w3.heap.size ≠ B9; omega) _)
  replace HBW := Lib.hid (show Below w.heap.size w W17 by rw [hW17]; exact (HBW.out.setCell (by show w.heap.size ≤ B9; omega) _).setCell (by show w.heap.size ≤ B9; omega) _)
  replace C9 := Lib.hid (show Cells W17 B9 _ [.bool FL, .slice A10 m9 c10] by rw [hW17]; exact (C9.out.set 0 _).set 1 _)
  clear hW17 p0 p1 f0 f1
  have p0 := C8.out.cell 0
  have p1 := C8.out.cell 1
  simp only [List.getElem?_cons_succ, List.getElem?_cons_zero] at p0 p1
  have q0 := C9.out.cell 0
  have q1 := C9.out.cell 1
  simp only [List.getElem?_cons_succ, List.getElem?_cons_zero] at q0 q1
  go_wp2_with fail
  refine (HMK.out _ _ _ (HS.out.below HBW.out (Nat.le_refl _)) TN.out TD.out).mono ?_
  rintro e w18 ⟨rfl, hb⟩
  replace CR := Lib.hid (CR.out.below hb CR.out.lt)
  replace HBW := Lib.hid (HBW.out.trans (hb.mono HBW.out.size))
  clear hb p0 p1 q0 q1
  have q0 := CR.out.cell 0
  have q1 := CR.out.cell 1
  have q2 := CR.out.free 0
  have q3 := CR.out.free 1
  simp only [List.getElem?_cons_succ, List.getElem?_cons_zero] at q0 q1
  have hbw2 := HBW.out
  go_wp2_with fail
  refine bodyPost_ret (v := .tuple #[.agg #[.string ⟨la.toArray⟩, .string ⟨lb.toArray⟩], .int .i64 0]) (by simp [results, Tryz.results98, go_sem, q0, q1]) rfl ⟨rfl, ?_⟩
  exact (hbw2.setCell (Nat.le_refl _) _).setCell (Nat.le_refl _) _

end Go.Proofs.YtagfnnongamneaaGreatDoor

namespace Go.Proofs.YtagfnnongamneaaGreatDoor
open Go.RowKit Go.Lib

set_option maxRecDepth 100000 in
set_option maxHeartbeats 8000000 in
theorem p03_pt_bad1 (s ta tb : List UInt8) (b : Bool) (w : World) (hS : Std w) (hl : s.length ≤ 400) (ht : (ta ++ 46 :: tb).length ≤ s.length) (hc : TpIs s (ta ++ 46 :: tb)) (hi : IdxIs (ta ++ 46 :: tb) ta.length) (ho : okDig ta = false) :
    Calls Tryz.prog 98 #[.string ⟨s.toArray⟩] w fun e w' => e = .returned (frdOut b (.bad 15)) ∧ Below w.heap.size w w' := by
  have htl : (ta ++ 46 :: tb).length = ta.length + 1 + tb.length := by simp; omega
  have hx1 : ∀ h, (⟨(ta ++ 46 :: tb).toArray⟩ : ByteArray)[ta.length]'h = 46 := by
    intro h
    rw [ba_at]
    simp
  have hx2 : (⟨(ta ++ 46 :: tb).toArray⟩ : ByteArray).extract 0 ta.length = ⟨ta.toArray⟩ := ba_ext (by rw [ext_eq]; simp)
  have hx3 : (⟨(ta ++ 46 :: tb).toArray⟩ : ByteArray).extract (ta.length + 1) (ta ++ 46 :: tb).length = ⟨tb.toArray⟩ := ba_ext (by rw [ext_eq, mk_toList, mk_toList, List.take_of_length_le (Nat.le_refl _), show ta ++ 46 :: tb = (ta ++ [46]) ++ tb by simp, List.drop_left' (by simp)])
  have hln : (ta ++ 46 :: tb).length ≤ 400 := by omega
  have hw1 : IntKind.i64.wrap ((ta.length : Int) + 1) = (ta.length : Int) + 1 := IntWalk.i64_in _ (by omega)
  have hw2 : ((ta.length : Int) + 1).toNat = ta.length + 1 := by omega
  have hw3 : (0 : Int) ≤ (ta.length : Int) + 1 := by omega
  have hw4 : (ta.length : Int) + 1 ≤ ((ta ++ 46 :: tb).length : Int) := by omega
  have hw5 : (ta.length : Int) ≤ ((ta ++ 46 :: tb).length : Int) := by omega
  have hw6 : (ta.length : Int) < ((ta ++ 46 :: tb).length : Int) := by omega
  have HC := Lib.hid hc
  have HI := Lib.hid hi
  have HS := Lib.hid hS
  have HOF := Lib.hid (fun W hW => of03_any 1 W hW (by omega) (by omega) (of_decide_eq_true (by kernel_rfl)))
  rw [show decide ((1 : Int) < 0) = false from rfl, show (1 : Int).natAbs = 1 from rfl, show (pcsI 1).length = 1 by rw [pcsI_len, pcs_one]; rfl] at HOF
  have HD1 := Lib.hid (fun W => digits03_any ta W (by omega))
  have hli : (s.length : Int) ≤ 400 := by omega
  rw [ho] at HD1
  rw [frdOut_bad]
  clear hc hi hS hl ht ho htl hx1
  generalize ta ++ 46 :: tb = t at *
  go_enter Tryz.func98, Tryz.ntmps98
  go_wp2_with fail
  refine (HC.out _).mono ?_
  rintro e w1 ⟨rfl, hb1⟩
  rw [World.size_alloc] at hb1
  have CR := Lib.hid (cells_of_below hb1)
  have HBW := Lib.hid (below_result hb1)
  clear hb1 HC
  go_wp2_with fail
  refine (HI.out _).mono ?_
  rintro e w2 ⟨rfl, hb⟩
  replace CR := Lib.hid (CR.out.below hb CR.out.lt)
  replace HBW := Lib.hid (HBW.out.trans (hb.mono HBW.out.size))
  clear hb HI
  go_wp2_with fail
  refine (HOF.out _ (HS.out.below HBW.out (Nat.le_refl _))).mono ?_
  rintro e w3 ⟨⟨A8, c8, rfl, ht8⟩, hb⟩
  replace CR := Lib.hid (CR.out.below hb CR.out.lt)
  replace HBW := Lib.hid (HBW.out.trans (hb.mono HBW.out.size))
  have TD := Lib.hid ht8
  clear hb ht8 HOF
  go_upto_region 6 with (fail)
  obtain ⟨W4, hW4⟩ : ∃ W4, W4 = w3.alloc (.cells #[.bool false, .slice A8 1 c8] 127) := ⟨_, rfl⟩
  have C8 : Hid (Cells W4 w3.heap.size 127 [.bool false, .slice A8 1 c8]) := Lib.hid (by rw [hW4]; exact Cells.new w3 _ _)
  have hb : Below w3.heap.size w3 W4 := by rw [hW4]; exact (Below.refl _ _).alloc (Nat.le_refl _) _
  rw [← hW4]
  have hz8 := CR.out.lt
  replace CR := Lib.hid (CR.out.below hb CR.out.lt)
  replace HBW := Lib.hid (HBW.out.trans (hb.mono HBW.out.size))
  replace TD := Lib.hid (TD.out.below hb)
  clear hb hW4
  go_wp2_with fail
  go_quiet (fail)
  obtain ⟨W5, hW5⟩ : ∃ W5, W5 = W4.drewN nq := ⟨_, rfl⟩
  have hb : Below W4.heap.size W4 W5 := by rw [hW5]; exact below_drewN (Below.refl _ _) _
  rw [← hW5]
  replace CR := Lib.hid (CR.out.below hb CR.out.lt)
  replace HBW := Lib.hid (HBW.out.trans (hb.mono HBW.out.size))
  clear hb hW5 hw1 hw2
  go_wp2_with fail
  refine (HD1.out _).mono ?_
  rintro e w6 ⟨rfl, rfl⟩
  have q0 := CR.out.cell 0
  have q1 := CR.out.cell 1
  have q2 := CR.out.free 0
  have q3 := CR.out.free 1
  simp only [List.getElem?_cons_succ, List.getElem?_cons_zero] at q0 q1
  have hbw2 := HBW.out
  go_wp2_with fail
  refine bodyPost_ret (v := .tuple #[.agg #[.string ⟨#[]⟩, .string ⟨#[]⟩], .int .i64 15]) (by simp [results, Tryz.results98, go_sem, q0, q1]) rfl ⟨rfl, ?_⟩
  exact (hbw2.setCell (Nat.le_refl _) _).setCell (Nat.le_refl _) _

set_option maxRecDepth 100000 in
set_option maxHeartbeats 8000000 in
theorem p03_pt_bad2 (s ta tb : List UInt8) (b : Bool) (w : World) (hS : Std w) (hl : s.length ≤ 400) (ht : (ta ++ 46 :: tb).length ≤ s.length) (hc : TpIs s (ta ++ 46 :: tb)) (hi : IdxIs (ta ++ 46 :: tb) ta.length) (ho : okDig ta = true) (ho2 : okDig tb = false) :
    Calls Tryz.prog 98 #[.string ⟨s.toArray⟩] w fun e w' => e = .returned (frdOut b (.bad 15)) ∧ Below w.heap.size w w' := by
  have htl : (ta ++ 46 :: tb).length = ta.length + 1 + tb.length := by simp; omega
  have hx1 : ∀ h, (⟨(ta ++ 46 :: tb).toArray⟩ : ByteArray)[ta.length]'h = 46 := by
    intro h
    rw [ba_at]
    simp
  have hx2 : (⟨(ta ++ 46 :: tb).toArray⟩ : ByteArray).extract 0 ta.length = ⟨ta.toArray⟩ := ba_ext (by rw [ext_eq]; simp)
  have hx3 : (⟨(ta ++ 46 :: tb).toArray⟩ : ByteArray).extract (ta.length + 1) (ta ++ 46 :: tb).length = ⟨tb.toArray⟩ := ba_ext (by rw [ext_eq, mk_toList, mk_toList, List.take_of_length_le (Nat.le_refl _), show ta ++ 46 :: tb = (ta ++ [46]) ++ tb by simp, List.drop_left' (by simp)])
  have hln : (ta ++ 46 :: tb).length ≤ 400 := by omega
  have hw1 : IntKind.i64.wrap ((ta.length : Int) + 1) = (ta.length : Int) + 1 := IntWalk.i64_in _ (by omega)
  have hw2 : ((ta.length : Int) + 1).toNat = ta.length + 1 := by omega
  have hw3 : (0 : Int) ≤ (ta.length : Int) + 1 := by omega
  have hw4 : (ta.length : Int) + 1 ≤ ((ta ++ 46 :: tb).length : Int) := by omega
  have hw5 : (ta.length : Int) ≤ ((ta ++ 46 :: tb).length : Int) := by omega
  have hw6 : (ta.length : Int) < ((ta ++ 46 :: tb).length : Int) := by omega
  have HC := Lib.hid hc
  have HI := Lib.hid hi
  have HS := Lib.hid hS
  have HOF := Lib.hid (fun W hW => of03_any 1 W hW (by omega) (by omega) (of_decide_eq_true (by kernel_rfl)))
  rw [show decide ((1 : Int) < 0) = false from rfl, show (1 : Int).natAbs = 1 from rfl, show (pcsI 1).length = 1 by rw [pcsI_len, pcs_one]; rfl] at HOF
  have HD1 := Lib.hid (fun W => digits03_any ta W (by omega))
  have hli : (s.length : Int) ≤ 400 := by omega
  have HD2 := Lib.hid (fun W => digits03_any tb W (by omega))
  rw [ho2] at HD2
  rw [ho] at HD1
  rw [frdOut_bad]
  clear hc hi hS hl ht ho htl hx1 ho2
  generalize ta ++ 46 :: tb = t at *
  go_enter Tryz.func98, Tryz.ntmps98
  go_wp2_with fail
  refine (HC.out _).mono ?_
  rintro e w1 ⟨rfl, hb1⟩
  rw [World.size_alloc] at hb1
  have CR := Lib.hid (cells_of_below hb1)
  have HBW := Lib.hid (below_result hb1)
  clear hb1 HC
  go_wp2_with fail
  refine (HI.out _).mono ?_
  rintro e w2 ⟨rfl, hb⟩
  replace CR := Lib.hid (CR.out.below hb CR.out.lt)
  replace HBW := Lib.hid (HBW.out.trans (hb.mono HBW.out.size))
  clear hb HI
  go_wp2_with fail
  refine (HOF.out _ (HS.out.below HBW.out (Nat.le_refl _))).mono ?_
  rintro e w3 ⟨⟨A8, c8, rfl, ht8⟩, hb⟩
  replace CR := Lib.hid (CR.out.below hb CR.out.lt)
  replace HBW := Lib.hid (HBW.out.trans (hb.mono HBW.out.size))
  have TD := Lib.hid ht8
  clear hb ht8 HOF
  go_upto_region 6 with (fail)
  obtain ⟨W4, hW4⟩ : ∃ W4, W4 = w3.alloc (.cells #[.bool false, .slice A8 1 c8] 127) := ⟨_, rfl⟩
  have C8 : Hid (Cells W4 w3.heap.size 127 [.bool false, .slice A8 1 c8]) := Lib.hid (by rw [hW4]; exact Cells.new w3 _ _)
  have hb : Below w3.heap.size w3 W4 := by rw [hW4]; exact (Below.refl _ _).alloc (Nat.le_refl _) _
  rw [← hW4]
  have hz8 := CR.out.lt
  replace CR := Lib.hid (CR.out.below hb CR.out.lt)
  replace HBW := Lib.hid (HBW.out.trans (hb.mono HBW.out.size))
  replace TD := Lib.hid (TD.out.below hb)
  clear hb hW4
  go_wp2_with fail
  go_quiet (fail)
  obtain ⟨W5, hW5⟩ : ∃ W5, W5 = W4.drewN nq := ⟨_, rfl⟩
  have hb : Below W4.heap.size W4 W5 := by rw [hW5]; exact below_drewN (Below.refl _ _) _
  rw [← hW5]
  replace CR := Lib.hid (CR.out.below hb CR.out.lt)
  replace HBW := Lib.hid (HBW.out.trans (hb.mono HBW.out.size))
  clear hb hW5 hw1 hw2
  go_wp2_with fail
  refine (HD1.out _).mono ?_
  rintro e w6 ⟨rfl, rfl⟩
  go_wp2_with fail
  refine (HD2.out _).mono ?_
  rintro e w7 ⟨rfl, rfl⟩
  have q0 := CR.out.cell 0
  have q1 := CR.out.cell 1
  have q2 := CR.out.free 0
  have q3 := CR.out.free 1
  simp only [List.getElem?_cons_succ, List.getElem?_cons_zero] at q0 q1
  have hbw2 := HBW.out
  go_wp2_with fail
  refine bodyPost_ret (v := .tuple #[.agg #[.string ⟨#[]⟩, .string ⟨#[]⟩], .int .i64 15]) (by simp [results, Tryz.results98, go_sem, q0, q1]) rfl ⟨rfl, ?_⟩
  exact (hbw2.setCell (Nat.le_refl _) _).setCell (Nat.le_refl _) _

set_option maxRecDepth 100000 in
set_option maxHeartbeats 8000000 in
theorem p03_pt_pos (s ta tb : List UInt8) (w : World) (hS : Std w) (hl : s.length ≤ 400) (ht : (ta ++ 46 :: tb).length ≤ s.length) (hb : ¬ (ta ++ 46 :: tb).length < s.length) (hc : TpIs s (ta ++ 46 :: tb)) (hi : IdxIs (ta ++ 46 :: tb) ta.length) (ho : okDig ta = true) (ho2 : okDig tb = true) :
    Calls Tryz.prog 98 #[.string ⟨s.toArray⟩] w fun e w' => e = .returned (frdOut false (.good (dval 0 (ta ++ tb)) (10 ^ tb.length))) ∧ Below w.heap.size w w' := by
  have htl : (ta ++ 46 :: tb).length = ta.length + 1 + tb.length := by simp; omega
  have hx1 : ∀ h, (⟨(ta ++ 46 :: tb).toArray⟩ : ByteArray)[ta.length]'h = 46 := by
    intro h
    rw [ba_at]
    simp
  have hx2 : (⟨(ta ++ 46 :: tb).toArray⟩ : ByteArray).extract 0 ta.length = ⟨ta.toArray⟩ := ba_ext (by rw [ext_eq]; simp)
  have hx3 : (⟨(ta ++ 46 :: tb).toArray⟩ : ByteArray).extract (ta.length + 1) (ta ++ 46 :: tb).length = ⟨tb.toArray⟩ := ba_ext (by rw [ext_eq, mk_toList, mk_toList, List.take_of_length_le (Nat.le_refl _), show ta ++ 46 :: tb = (ta ++ [46]) ++ tb by simp, List.drop_left' (by simp)])
  have hln : (ta ++ 46 :: tb).length ≤ 400 := by omega
  have hw1 : IntKind.i64.wrap ((ta.length : Int) + 1) = (ta.length : Int) + 1 := IntWalk.i64_in _ (by omega)
  have hw2 : ((ta.length : Int) + 1).toNat = ta.length + 1 := by omega
  have hw3 : (0 : Int) ≤ (ta.length : Int) + 1 := by omega
  have hw4 : (ta.length : Int) + 1 ≤ ((ta ++ 46 :: tb).length : Int) := by omega
  have hw5 : (ta.length : Int) ≤ ((ta ++ 46 :: tb).length : Int) := by omega
  have hw6 : (ta.length : Int) < ((ta ++ 46 :: tb).length : Int) := by omega
  have HC := Lib.hid hc
  have HI := Lib.hid hi
  have HS := Lib.hid hS
  have HOF := Lib.hid (fun W hW => of03_any 1 W hW (by omega) (by omega) (of_decide_eq_true (by kernel_rfl)))
  rw [show decide ((1 : Int) < 0) = false from rfl, show (1 : Int).natAbs = 1 from rfl, show (pcsI 1).length = 1 by rw [pcsI_len, pcs_one]; rfl] at HOF
  have HD1 := Lib.hid (fun W => digits03_any ta W (by omega))
  have hli : (s.length : Int) ≤ 400 := by omega
  have HD2 := Lib.hid (fun W => digits03_any tb W (by omega))
  rw [ho2] at HD2
  rw [ho] at HD1
  have hda := dval_len ho
  have hdb := dval_len ho2
  have HNA := Lib.hid (fun W => number03_any ta W ho (by omega))
  have HNC := Lib.hid (fun W => number03_any (ta ++ tb) W (okDig_append ho ho2) (by rw [List.length_append]; omega))
  have hdc := dval_len (okDig_append ho ho2)
  rw [List.length_append] at hdc
  have HRZ := Lib.hid (fun W => repeat_zeros tb.length W (by omega))
  have hpd : (49 :: List.replicate tb.length 48 : List UInt8) = decDigits (10 ^ tb.length) := (dec_pow10 _).symm
  have hpv : dval 0 (49 :: List.replicate tb.length 48) = 10 ^ tb.length := by rw [hpd, dval_dec]
  have hpo : okDig (49 :: List.replicate tb.length 48) = true := by
    unfold okDig
    have : (List.replicate tb.length (48 : UInt8)).all digB = true := by rw [List.all_replicate]; split <;> rfl
    rw [List.all_cons, this]
    rfl
  have HNZ := Lib.hid (fun W => number03_any (49 :: List.replicate tb.length 48) W hpo (by simp; omega))
  rw [hpv] at HNZ
  have hpl : (decDigits (10 ^ tb.length)).length ≤ 500 := by rw [← hpd]; simp; omega
  have hD0 : 0 < 10 ^ tb.length := Nat.pow_pos (by omega)
  have hzl : (List.replicate tb.length (48 : UInt8)).length ≤ 400 := by simp; omega
  have hs1 : ¬ 9223372036854775807 < ta.length + tb.length := by omega
  obtain ⟨N, hN⟩ : ∃ N, dval 0 (ta ++ tb) = N := ⟨_, rfl⟩
  obtain ⟨D, hD⟩ : ∃ D, 10 ^ tb.length = D := ⟨_, rfl⟩
  rw [hN] at hdc HNC ⊢
  rw [hD] at hpl hD0 HNZ ⊢
  have HSG := Lib.hid (fun v W h => sign03_any false v (pcsI D) W h)
  rw [show sign03 false (pcsI D) = 1 by unfold sign03; rw [if_neg (by rw [pcsI_len, pcs_pos hD0]; simp)]; rfl] at HSG
  have HNG := Lib.hid (fun v W h => negW03_any false v N W h)
  have HMK := Lib.hid (fun fl va vb W hfl hW h1 h2 => make_read false fl N D va vb W hW hfl h1 h2 hD0 (by omega) (by omega))
  rw [frdOut_good]
  generalize itoa (lowN (sgnd false N) (D : Int)) = la at *
  generalize itoa (lowD (sgnd false N) (D : Int)) = lb at *
  obtain ⟨m9, hm9⟩ : ∃ m9, (pcs N).length = m9 := ⟨_, rfl⟩
  obtain ⟨m8, hm8⟩ : ∃ m8, (pcs D).length = m8 := ⟨_, rfl⟩
  obtain ⟨m7, hm7⟩ : ∃ m7, (pcs (dval 0 ta)).length = m7 := ⟨_, rfl⟩
  rw [hm9] at HNC HNG
  rw [hm8] at HNZ
  rw [hm7] at HNA
  generalize dval 0 ta = N7 at *
  have hbl : ¬ ((ta ++ 46 :: tb).length : Int) < (s.length : Int) := by omega
  replace HMK := Lib.hid (fun va vb W hW h1 h2 => HMK.out false va vb W rfl hW h1 h2)
  clear HNG
  clear hc hi hS hl ht ho ho2 htl hm9 hm8 hm7 hda hdb hdc hN hD hb hpd hpv hpo hpl hD0
  generalize ta ++ 46 :: tb = t at *
  go_enter Tryz.func98, Tryz.ntmps98
  go_wp2_with fail
  refine (HC.out _).mono ?_
  rintro e w1 ⟨rfl, hb1⟩
  rw [World.size_alloc] at hb1
  have CR := Lib.hid (cells_of_below hb1)
  have HBW := Lib.hid (below_result hb1)
  clear hb1 HC
  go_wp2_with fail
  refine (HI.out _).mono ?_
  rintro e w2 ⟨rfl, hb⟩
  replace CR := Lib.hid (CR.out.below hb CR.out.lt)
  replace HBW := Lib.hid (HBW.out.trans (hb.mono HBW.out.size))
  clear hb HI
  go_wp2_with fail
  refine (HOF.out _ (HS.out.below HBW.out (Nat.le_refl _))).mono ?_
  rintro e w3 ⟨⟨A8, c8, rfl, ht8⟩, hb⟩
  replace CR := Lib.hid (CR.out.below hb CR.out.lt)
  replace HBW := Lib.hid (HBW.out.trans (hb.mono HBW.out.size))
  have TD := Lib.hid ht8
  clear hb ht8 HOF
  go_upto_region 6 with (fail)
  obtain ⟨W4, hW4⟩ : ∃ W4, W4 = w3.alloc (.cells #[.bool false, .slice A8 1 c8] 127) := ⟨_, rfl⟩
  have C8 : Hid (Cells W4 w3.heap.size 127 [.bool false, .slice A8 1 c8]) := Lib.hid (by rw [hW4]; exact Cells.new w3 _ _)
  have hb : Below w3.heap.size w3 W4 := by rw [hW4]; exact (Below.refl _ _).alloc (Nat.le_refl _) _
  rw [← hW4]
  have hz8 := CR.out.lt
  replace CR := Lib.hid (CR.out.below hb CR.out.lt)
  replace HBW := Lib.hid (HBW.out.trans (hb.mono HBW.out.size))
  replace TD := Lib.hid (TD.out.below hb)
  clear hb hW4
  go_wp2_with fail
  go_quiet (fail)
  obtain ⟨W5, hW5⟩ : ∃ W5, W5 = W4.drewN nq := ⟨_, rfl⟩
  have hb : Below W4.heap.size W4 W5 := by rw [hW5]; exact below_drewN (Below.refl _ _) _
  rw [← hW5]
  replace CR := Lib.hid (CR.out.below hb CR.out.lt)
  replace C8 := Lib.hid (C8.out.below hb C8.out.lt)
  replace TD := Lib.hid (TD.out.below hb)
  replace HBW := Lib.hid (HBW.out.trans (hb.mono HBW.out.size))
  clear hb hW5 hw1 hw2
  go_wp2_with fail
  refine (HD1.out _).mono ?_
  rintro e w6 ⟨rfl, rfl⟩
  go_wp2_with fail
  refine (HD2.out _).mono ?_
  rintro e w7 ⟨rfl, rfl⟩
  go_wp2_with fail
  refine (HNA.out _).mono ?_
  rintro e w5 ⟨⟨A9, c9, rfl, ht9⟩, hb⟩
  replace CR := Lib.hid (CR.out.below hb CR.out.lt)
  replace C8 := Lib.hid (C8.out.below hb C8.out.lt)
  replace TD := Lib.hid (TD.out.below hb)
  replace HBW := Lib.hid (HBW.out.trans (hb.mono HBW.out.size))
  have TN := Lib.hid ht9
  clear hb ht9
  go_upto_region 11 with (fail)
  obtain ⟨W6, hW6⟩ : ∃ W6, W6 = w5.alloc (.cells #[.bool false, .slice A9 m7 c9] 127) := ⟨_, rfl⟩
  have C9 : Hid (Cells W6 w5.heap.size 127 [.bool false, .slice A9 m7 c9]) := Lib.hid (by rw [hW6]; exact Cells.new w5 _ _)
  have hb : Below w5.heap.size w5 W6 := by rw [hW6]; exact (Below.refl _ _).alloc (Nat.le_refl _) _
  rw [← hW6]
  have hz9 := C8.out.lt
  replace CR := Lib.hid (CR.out.below hb CR.out.lt)
  replace C8 := Lib.hid (C8.out.below hb C8.out.lt)
  replace TD := Lib.hid (TD.out.below hb)
  replace TN := Lib.hid (TN.out.below hb)
  replace HBW := Lib.hid (HBW.out.trans (hb.mono HBW.out.size))
  clear hb hW6
  obtain ⟨B9, hB9⟩ : ∃ B9, w5.heap.size = B9 := ⟨_, rfl⟩
  rw [hB9] at C9 hz9
  rw [hB9]
  clear hB9
  go_wp2_with fail
  rw [show (⟨ta.toArray⟩ ++ ⟨tb.toArray⟩ : ByteArray) = ⟨(ta ++ tb).toArray⟩ from ba_append ta tb]
  refine (HNC.out _).mono ?_
  rintro e w8 ⟨⟨A13, c13, rfl, ht13⟩, hb⟩
  replace CR := Lib.hid (CR.out.below hb CR.out.lt)
  replace C8 := Lib.hid (C8.out.below hb C8.out.lt)
  replace C9 := Lib.hid (C9.out.below hb C9.out.lt)
  replace HBW := Lib.hid (HBW.out.trans (hb.mono HBW.out.size))
  have T13 := Lib.hid ht13
  clear hb ht13 TN TD
  go_wp2_with fail
  refine (HRZ.out _).mono ?_
  rintro e w9 ⟨rfl, hb⟩
  replace CR := Lib.hid (CR.out.below hb CR.out.lt)
  replace C8 := Lib.hid (C8.out.below hb C8.out.lt)
  replace C9 := Lib.hid (C9.out.below hb C9.out.lt)
  replace HBW := Lib.hid (HBW.out.trans (hb.mono HBW.out.size))
  replace T13 := Lib.hid (T13.out.below hb)
  clear hb
  generalize List.replicate tb.length (48 : UInt8) = zz at *
  have hs2 : ¬ 9223372036854775807 < 1 + zz.length := by omega
  go_wp2_with fail
  rw [show (⟨#[49]⟩ ++ ⟨zz.toArray⟩ : ByteArray) = ⟨(49 :: zz).toArray⟩ from ba_append [49] zz]
  refine (HNZ.out _).mono ?_
  rintro e w10 ⟨⟨A14, c14, rfl, ht14⟩, hb⟩
  replace CR := Lib.hid (CR.out.below hb CR.out.lt)
  replace C8 := Lib.hid (C8.out.below hb C8.out.lt)
  replace C9 := Lib.hid (C9.out.below hb C9.out.lt)
  replace HBW := Lib.hid (HBW.out.trans (hb.mono HBW.out.size))
  replace T13 := Lib.hid (T13.out.below hb)
  clear hb
  have p0 := C8.out.cell 0
  have p1 := C8.out.cell 1
  have f0 := C8.out.free 0
  have f1 := C8.out.free 1
  have q0 := C9.out.cell 0
  have q1 := C9.out.cell 1
  have g0 := C9.out.free 0
  have g1 := C9.out.free 1
  simp only [List.getElem?_cons_succ, List.getElem?_cons_zero] at p0 p1 q0 q1
  have hne1 : w3.heap.size ≠ B9 := by omega
  have hne2 : B9 ≠ w3.heap.size := by omega
  go_upto_region 15 with (fail)
  obtain ⟨WA, hWA⟩ : ∃ WA, WA = (w10.setCell ⟨B9, 0, Option.none⟩ (.bool false)).setCell ⟨B9, 1, Option.none⟩ (.slice A13 m9 c13) := ⟨_, rfl⟩
  rw [← hWA]
  have TN : Hid (TRow WA (.slice A13 m9 c13) (pcsI N)) := Lib.hid (by rw [hWA]; exact (T13.out.set C9.out (by decide) _).set (C9.out.set 0 _) (by decide) _)
  have TD : Hid (TRow WA (.slice A14 m8 c14) (pcsI D)) := Lib.hid (by rw [hWA]; exact (ht14.set C9.out (by decide) _).set (C9.out.set 0 _) (by decide) _)
  replace CR := Lib.hid (show Cells WA _ _ _ by rw [hWA]; exact (CR.out.far (by show w.heap.size ≠ B9; omega) _).far (by show w.heap.size ≠ B9; omega) _)
  replace C8 := Lib.hid (show Cells WA _ _ _ by rw [hWA]; exact (C8.out.far (by show w3.heap.size ≠ B9; omega) _).far (by show w3.heap.size ≠ B9; omega) _)
  replace HBW := Lib.hid (show Below w.heap.size w WA by rw [hWA]; exact (HBW.out.setCell (by show w.heap.size ≤ B9; omega) _).setCell (by show w.heap.size ≤ B9; omega) _)
  replace C9 := Lib.hid (show Cells WA B9 _ [.bool false, .slice A13 m9 c13] by rw [hWA]; exact (C9.out.set 0 _).set 1 _)
  clear hWA
  obtain ⟨WB, hWB⟩ : ∃ WB, WB = (WA.setCell ⟨w3.heap.size, 0, Option.none⟩ (.bool false)).setCell ⟨w3.heap.size, 1, Option.none⟩ (.slice A14 m8 c14) := ⟨_, rfl⟩
  rw [← hWB]
  replace TN := Lib.hid (show TRow WB _ _ by rw [hWB]; exact (TN.out.set C8.out (by decide) _).set (C8.out.set 0 _) (by decide) _)
  replace TD := Lib.hid (show TRow WB _ _ by rw [hWB]; exact (TD.out.set C8.out (by decide) _).set (C8.out.set 0 _) (by decide) _)
  replace CR := Lib.hid (show Cells WB _ _ _ by rw [hWB]; exact (CR.out.far (by show w.heap.size ≠ w3.heap.size; omega) _).far (by show w.heap.size ≠ w3.heap.size; omega) _)
  replace C9 := Lib.hid (show Cells WB _ _ _ by rw [hWB]; exact (C9.out.far (by show B9 ≠ w3.heap.size; omega) _).far (by show B9 ≠ w3.heap.size; omega) _)
  replace HBW := Lib.hid (show Below w.heap.size w WB by rw [hWB]; exact (HBW.out.setCell (by show w.heap.size ≤ w3.heap.size; omega) _).setCell (by show w.heap.size ≤ w3.heap.size; omega) _)
  replace C8 := Lib.hid (show Cells WB w3.heap.size _ [.bool false, .slice A14 m8 c14] by rw [hWB]; exact (C8.out.set 0 _).set 1 _)
  clear hWB p0 p1 f0 f1 q0 q1 g0 g1 ht14 T13
  have p0 := C8.out.cell 0
  have p1 := C8.out.cell 1
  simp only [List.getElem?_cons_succ, List.getElem?_cons_zero] at p0 p1
  go_wp2_with fail
  refine (HSG.out _ _ TD.out.isRow).mono ?_
  rintro e w15 ⟨rfl, hb⟩
  replace CR := Lib.hid (CR.out.below hb CR.out.lt)
  replace C8 := Lib.hid (C8.out.below hb C8.out.lt)
  replace C9 := Lib.hid (C9.out.below hb C9.out.lt)
  replace TD := Lib.hid (TD.out.below hb)
  replace TN := Lib.hid (TN.out.below hb)
  replace HBW := Lib.hid (HBW.out.trans (hb.mono HBW.out.size))
  clear hb p0 p1
  have p0 := C8.out.cell 0
  have p1 := C8.out.cell 1
  simp only [List.getElem?_cons_succ, List.getElem?_cons_zero] at p0 p1
  have q0 := C9.out.cell 0
  have q1 := C9.out.cell 1
  simp only [List.getElem?_cons_succ, List.getElem?_cons_zero] at q0 q1
  go_wp2_with fail
  refine (HMK.out _ _ _ (HS.out.below HBW.out (Nat.le_refl _)) TN.out TD.out).mono ?_
  rintro e w18 ⟨rfl, hb⟩
  replace CR := Lib.hid (CR.out.below hb CR.out.lt)
  replace HBW := Lib.hid (HBW.out.trans (hb.mono HBW.out.size))
  clear hb p0 p1 q0 q1
  have q0 := CR.out.cell 0
  have q1 := CR.out.cell 1
  have q2 := CR.out.free 0
  have q3 := CR.out.free 1
  simp only [List.getElem?_cons_succ, List.getElem?_cons_zero] at q0 q1
  have hbw2 := HBW.out
  go_wp2_with fail
  refine bodyPost_ret (v := .tuple #[.agg #[.string ⟨la.toArray⟩, .string ⟨lb.toArray⟩], .int .i64 0]) (by simp [results, Tryz.results98, go_sem, q0, q1]) rfl ⟨rfl, ?_⟩
  exact (hbw2.setCell (Nat.le_refl _) _).setCell (Nat.le_refl _) _

set_option maxRecDepth 100000 in
set_option maxHeartbeats 8000000 in
theorem p03_pt_neg (s ta tb : List UInt8) (w : World) (hS : Std w) (hl : s.length ≤ 400) (hb : (ta ++ 46 :: tb).length < s.length) (hc : TpIs s (ta ++ 46 :: tb)) (hi : IdxIs (ta ++ 46 :: tb) ta.length) (ho : okDig ta = true) (ho2 : okDig tb = true) :
    Calls Tryz.prog 98 #[.string ⟨s.toArray⟩] w fun e w' => e = .returned (frdOut true (.good (dval 0 (ta ++ tb)) (10 ^ tb.length))) ∧ Below w.heap.size w w' := by
  have htl : (ta ++ 46 :: tb).length = ta.length + 1 + tb.length := by simp; omega
  have hx1 : ∀ h, (⟨(ta ++ 46 :: tb).toArray⟩ : ByteArray)[ta.length]'h = 46 := by
    intro h
    rw [ba_at]
    simp
  have hx2 : (⟨(ta ++ 46 :: tb).toArray⟩ : ByteArray).extract 0 ta.length = ⟨ta.toArray⟩ := ba_ext (by rw [ext_eq]; simp)
  have hx3 : (⟨(ta ++ 46 :: tb).toArray⟩ : ByteArray).extract (ta.length + 1) (ta ++ 46 :: tb).length = ⟨tb.toArray⟩ := ba_ext (by rw [ext_eq, mk_toList, mk_toList, List.take_of_length_le (Nat.le_refl _), show ta ++ 46 :: tb = (ta ++ [46]) ++ tb by simp, List.drop_left' (by simp)])
  have hln : (ta ++ 46 :: tb).length ≤ 400 := by omega
  have hw1 : IntKind.i64.wrap ((ta.length : Int) + 1) = (ta.length : Int) + 1 := IntWalk.i64_in _ (by omega)
  have hw2 : ((ta.length : Int) + 1).toNat = ta.length + 1 := by omega
  have hw3 : (0 : Int) ≤ (ta.length : Int) + 1 := by omega
  have hw4 : (ta.length : Int) + 1 ≤ ((ta ++ 46 :: tb).length : Int) := by omega
  have hw5 : (ta.length : Int) ≤ ((ta ++ 46 :: tb).length : Int) := by omega
  have hw6 : (ta.length : Int) < ((ta ++ 46 :: tb).length : Int) := by omega
  have HC := Lib.hid hc
  have HI := Lib.hid hi
  have HS := Lib.hid hS
  have HOF := Lib.hid (fun W hW => of03_any 1 W hW (by omega) (by omega) (of_decide_eq_true (by kernel_rfl)))
  rw [show decide ((1 : Int) < 0) = false from rfl, show (1 : Int).natAbs = 1 from rfl, show (pcsI 1).length = 1 by rw [pcsI_len, pcs_one]; rfl] at HOF
  have HD1 := Lib.hid (fun W => digits03_any ta W (by omega))
  have hli : (s.length : Int) ≤ 400 := by omega
  have HD2 := Lib.hid (fun W => digits03_any tb W (by omega))
  rw [ho2] at HD2
  rw [ho] at HD1
  have hda := dval_len ho
  have hdb := dval_len ho2
  have HNA := Lib.hid (fun W => number03_any ta W ho (by omega))
  have HNC := Lib.hid (fun W => number03_any (ta ++ tb) W (okDig_append ho ho2) (by rw [List.length_append]; omega))
  have hdc := dval_len (okDig_append ho ho2)
  rw [List.length_append] at hdc
  have HRZ := Lib.hid (fun W => repeat_zeros tb.length W (by omega))
  have hpd : (49 :: List.replicate tb.length 48 : List UInt8) = decDigits (10 ^ tb.length) := (dec_pow10 _).symm
  have hpv : dval 0 (49 :: List.replicate tb.length 48) = 10 ^ tb.length := by rw [hpd, dval_dec]
  have hpo : okDig (49 :: List.replicate tb.length 48) = true := by
    unfold okDig
    have : (List.replicate tb.length (48 : UInt8)).all digB = true := by rw [List.all_replicate]; split <;> rfl
    rw [List.all_cons, this]
    rfl
  have HNZ := Lib.hid (fun W => number03_any (49 :: List.replicate tb.length 48) W hpo (by simp; omega))
  rw [hpv] at HNZ
  have hpl : (decDigits (10 ^ tb.length)).length ≤ 500 := by rw [← hpd]; simp; omega
  have hD0 : 0 < 10 ^ tb.length := Nat.pow_pos (by omega)
  have hzl : (List.replicate tb.length (48 : UInt8)).length ≤ 400 := by simp; omega
  have hs1 : ¬ 9223372036854775807 < ta.length + tb.length := by omega
  obtain ⟨N, hN⟩ : ∃ N, dval 0 (ta ++ tb) = N := ⟨_, rfl⟩
  obtain ⟨D, hD⟩ : ∃ D, 10 ^ tb.length = D := ⟨_, rfl⟩
  rw [hN] at hdc HNC ⊢
  rw [hD] at hpl hD0 HNZ ⊢
  have HSG := Lib.hid (fun v W h => sign03_any false v (pcsI D) W h)
  rw [show sign03 false (pcsI D) = 1 by unfold sign03; rw [if_neg (by rw [pcsI_len, pcs_pos hD0]; simp)]; rfl] at HSG
  have HNG := Lib.hid (fun v W h => negW03_any false v N W h)
  have HMK := Lib.hid (fun fl va vb W hfl hW h1 h2 => make_read true fl N D va vb W hW hfl h1 h2 hD0 (by omega) (by omega))
  rw [frdOut_good]
  generalize itoa (lowN (sgnd true N) (D : Int)) = la at *
  generalize itoa (lowD (sgnd true N) (D : Int)) = lb at *
  obtain ⟨m9, hm9⟩ : ∃ m9, (pcs N).length = m9 := ⟨_, rfl⟩
  obtain ⟨m8, hm8⟩ : ∃ m8, (pcs D).length = m8 := ⟨_, rfl⟩
  obtain ⟨m7, hm7⟩ : ∃ m7, (pcs (dval 0 ta)).length = m7 := ⟨_, rfl⟩
  rw [hm9] at HNC HNG
  rw [hm8] at HNZ
  rw [hm7] at HNA
  generalize dval 0 ta = N7 at *
  have hbl : ((ta ++ 46 :: tb).length : Int) < (s.length : Int) := by omega
  obtain ⟨FL, hFL⟩ : ∃ FL : Bool, (!false && decide (0 < N)) = FL := ⟨_, rfl⟩
  rw [hFL] at HNG
  replace HMK := Lib.hid (fun va vb W hW h1 h2 => HMK.out FL va vb W hFL.symm hW h1 h2)
  clear hFL
  clear hc hi hS hl ho ho2 htl hm9 hm8 hm7 hda hdb hdc hN hD hb hpd hpv hpo hpl hD0
  generalize ta ++ 46 :: tb = t at *
  go_enter Tryz.func98, Tryz.ntmps98
  go_wp2_with fail
  refine (HC.out _).mono ?_
  rintro e w1 ⟨rfl, hb1⟩
  rw [World.size_alloc] at hb1
  have CR := Lib.hid (cells_of_below hb1)
  have HBW := Lib.hid (below_result hb1)
  clear hb1 HC
  go_wp2_with fail
  refine (HI.out _).mono ?_
  rintro e w2 ⟨rfl, hb⟩
  replace CR := Lib.hid (CR.out.below hb CR.out.lt)
  replace HBW := Lib.hid (HBW.out.trans (hb.mono HBW.out.size))
  clear hb HI
  go_wp2_with fail
  refine (HOF.out _ (HS.out.below HBW.out (Nat.le_refl _))).mono ?_
  rintro e w3 ⟨⟨A8, c8, rfl, ht8⟩, hb⟩
  replace CR := Lib.hid (CR.out.below hb CR.out.lt)
  replace HBW := Lib.hid (HBW.out.trans (hb.mono HBW.out.size))
  have TD := Lib.hid ht8
  clear hb ht8 HOF
  go_upto_region 6 with (fail)
  obtain ⟨W4, hW4⟩ : ∃ W4, W4 = w3.alloc (.cells #[.bool false, .slice A8 1 c8] 127) := ⟨_, rfl⟩
  have C8 : Hid (Cells W4 w3.heap.size 127 [.bool false, .slice A8 1 c8]) := Lib.hid (by rw [hW4]; exact Cells.new w3 _ _)
  have hb : Below w3.heap.size w3 W4 := by rw [hW4]; exact (Below.refl _ _).alloc (Nat.le_refl _) _
  rw [← hW4]
  have hz8 := CR.out.lt
  replace CR := Lib.hid (CR.out.below hb CR.out.lt)
  replace HBW := Lib.hid (HBW.out.trans (hb.mono HBW.out.size))
  replace TD := Lib.hid (TD.out.below hb)
  clear hb hW4
  go_wp2_with fail
  go_quiet (fail)
  obtain ⟨W5, hW5⟩ : ∃ W5, W5 = W4.drewN nq := ⟨_, rfl⟩
  have hb : Below W4.heap.size W4 W5 := by rw [hW5]; exact below_drewN (Below.refl _ _) _
  rw [← hW5]
  replace CR := Lib.hid (CR.out.below hb CR.out.lt)
  replace C8 := Lib.hid (C8.out.below hb C8.out.lt)
  replace TD := Lib.hid (TD.out.below hb)
  replace HBW := Lib.hid (HBW.out.trans (hb.mono HBW.out.size))
  clear hb hW5 hw1 hw2
  go_wp2_with fail
  refine (HD1.out _).mono ?_
  rintro e w6 ⟨rfl, rfl⟩
  go_wp2_with fail
  refine (HD2.out _).mono ?_
  rintro e w7 ⟨rfl, rfl⟩
  go_wp2_with fail
  refine (HNA.out _).mono ?_
  rintro e w5 ⟨⟨A9, c9, rfl, ht9⟩, hb⟩
  replace CR := Lib.hid (CR.out.below hb CR.out.lt)
  replace C8 := Lib.hid (C8.out.below hb C8.out.lt)
  replace TD := Lib.hid (TD.out.below hb)
  replace HBW := Lib.hid (HBW.out.trans (hb.mono HBW.out.size))
  have TN := Lib.hid ht9
  clear hb ht9
  go_upto_region 11 with (fail)
  obtain ⟨W6, hW6⟩ : ∃ W6, W6 = w5.alloc (.cells #[.bool false, .slice A9 m7 c9] 127) := ⟨_, rfl⟩
  have C9 : Hid (Cells W6 w5.heap.size 127 [.bool false, .slice A9 m7 c9]) := Lib.hid (by rw [hW6]; exact Cells.new w5 _ _)
  have hb : Below w5.heap.size w5 W6 := by rw [hW6]; exact (Below.refl _ _).alloc (Nat.le_refl _) _
  rw [← hW6]
  have hz9 := C8.out.lt
  replace CR := Lib.hid (CR.out.below hb CR.out.lt)
  replace C8 := Lib.hid (C8.out.below hb C8.out.lt)
  replace TD := Lib.hid (TD.out.below hb)
  replace TN := Lib.hid (TN.out.below hb)
  replace HBW := Lib.hid (HBW.out.trans (hb.mono HBW.out.size))
  clear hb hW6
  obtain ⟨B9, hB9⟩ : ∃ B9, w5.heap.size = B9 := ⟨_, rfl⟩
  rw [hB9] at C9 hz9
  rw [hB9]
  clear hB9
  go_wp2_with fail
  rw [show (⟨ta.toArray⟩ ++ ⟨tb.toArray⟩ : ByteArray) = ⟨(ta ++ tb).toArray⟩ from ba_append ta tb]
  refine (HNC.out _).mono ?_
  rintro e w8 ⟨⟨A13, c13, rfl, ht13⟩, hb⟩
  replace CR := Lib.hid (CR.out.below hb CR.out.lt)
  replace C8 := Lib.hid (C8.out.below hb C8.out.lt)
  replace C9 := Lib.hid (C9.out.below hb C9.out.lt)
  replace HBW := Lib.hid (HBW.out.trans (hb.mono HBW.out.size))
  have T13 := Lib.hid ht13
  clear hb ht13 TN TD
  go_wp2_with fail
  refine (HRZ.out _).mono ?_
  rintro e w9 ⟨rfl, hb⟩
  replace CR := Lib.hid (CR.out.below hb CR.out.lt)
  replace C8 := Lib.hid (C8.out.below hb C8.out.lt)
  replace C9 := Lib.hid (C9.out.below hb C9.out.lt)
  replace HBW := Lib.hid (HBW.out.trans (hb.mono HBW.out.size))
  replace T13 := Lib.hid (T13.out.below hb)
  clear hb
  generalize List.replicate tb.length (48 : UInt8) = zz at *
  have hs2 : ¬ 9223372036854775807 < 1 + zz.length := by omega
  go_wp2_with fail
  rw [show (⟨#[49]⟩ ++ ⟨zz.toArray⟩ : ByteArray) = ⟨(49 :: zz).toArray⟩ from ba_append [49] zz]
  refine (HNZ.out _).mono ?_
  rintro e w10 ⟨⟨A14, c14, rfl, ht14⟩, hb⟩
  replace CR := Lib.hid (CR.out.below hb CR.out.lt)
  replace C8 := Lib.hid (C8.out.below hb C8.out.lt)
  replace C9 := Lib.hid (C9.out.below hb C9.out.lt)
  replace HBW := Lib.hid (HBW.out.trans (hb.mono HBW.out.size))
  replace T13 := Lib.hid (T13.out.below hb)
  clear hb
  have p0 := C8.out.cell 0
  have p1 := C8.out.cell 1
  have f0 := C8.out.free 0
  have f1 := C8.out.free 1
  have q0 := C9.out.cell 0
  have q1 := C9.out.cell 1
  have g0 := C9.out.free 0
  have g1 := C9.out.free 1
  simp only [List.getElem?_cons_succ, List.getElem?_cons_zero] at p0 p1 q0 q1
  have hne1 : w3.heap.size ≠ B9 := by omega
  have hne2 : B9 ≠ w3.heap.size := by omega
  go_upto_region 15 with (fail)
  obtain ⟨WA, hWA⟩ : ∃ WA, WA = (w10.setCell ⟨B9, 0, Option.none⟩ (.bool false)).setCell ⟨B9, 1, Option.none⟩ (.slice A13 m9 c13) := ⟨_, rfl⟩
  rw [← hWA]
  have TN : Hid (TRow WA (.slice A13 m9 c13) (pcsI N)) := Lib.hid (by rw [hWA]; exact (T13.out.set C9.out (by decide) _).set (C9.out.set 0 _) (by decide) _)
  have TD : Hid (TRow WA (.slice A14 m8 c14) (pcsI D)) := Lib.hid (by rw [hWA]; exact (ht14.set C9.out (by decide) _).set (C9.out.set 0 _) (by decide) _)
  replace CR := Lib.hid (show Cells WA _ _ _ by rw [hWA]; exact (CR.out.far (by show w.heap.size ≠ B9; omega) _).far (by show w.heap.size ≠ B9; omega) _)
  replace C8 := Lib.hid (show Cells WA _ _ _ by rw [hWA]; exact (C8.out.far (by show w3.heap.size ≠ B9; omega) _).far (by show w3.heap.size ≠ B9; omega) _)
  replace HBW := Lib.hid (show Below w.heap.size w WA by rw [hWA]; exact (HBW.out.setCell (by show w.heap.size ≤ B9; omega) _).setCell (by show w.heap.size ≤ B9; omega) _)
  replace C9 := Lib.hid (show Cells WA B9 _ [.bool false, .slice A13 m9 c13] by rw [hWA]; exact (C9.out.set 0 _).set 1 _)
  clear hWA
  obtain ⟨WB, hWB⟩ : ∃ WB, WB = (WA.setCell ⟨w3.heap.size, 0, Option.none⟩ (.bool false)).setCell ⟨w3.heap.size, 1, Option.none⟩ (.slice A14 m8 c14) := ⟨_, rfl⟩
  rw [← hWB]
  replace TN := Lib.hid (show TRow WB _ _ by rw [hWB]; exact (TN.out.set C8.out (by decide) _).set (C8.out.set 0 _) (by decide) _)
  replace TD := Lib.hid (show TRow WB _ _ by rw [hWB]; exact (TD.out.set C8.out (by decide) _).set (C8.out.set 0 _) (by decide) _)
  replace CR := Lib.hid (show Cells WB _ _ _ by rw [hWB]; exact (CR.out.far (by show w.heap.size ≠ w3.heap.size; omega) _).far (by show w.heap.size ≠ w3.heap.size; omega) _)
  replace C9 := Lib.hid (show Cells WB _ _ _ by rw [hWB]; exact (C9.out.far (by show B9 ≠ w3.heap.size; omega) _).far (by show B9 ≠ w3.heap.size; omega) _)
  replace HBW := Lib.hid (show Below w.heap.size w WB by rw [hWB]; exact (HBW.out.setCell (by show w.heap.size ≤ w3.heap.size; omega) _).setCell (by show w.heap.size ≤ w3.heap.size; omega) _)
  replace C8 := Lib.hid (show Cells WB w3.heap.size _ [.bool false, .slice A14 m8 c14] by rw [hWB]; exact (C8.out.set 0 _).set 1 _)
  clear hWB p0 p1 f0 f1 q0 q1 g0 g1 ht14 T13
  have p0 := C8.out.cell 0
  have p1 := C8.out.cell 1
  simp only [List.getElem?_cons_succ, List.getElem?_cons_zero] at p0 p1
  go_wp2_with fail
  refine (HSG.out _ _ TD.out.isRow).mono ?_
  rintro e w15 ⟨rfl, hb⟩
  replace CR := Lib.hid (CR.out.below hb CR.out.lt)
  replace C8 := Lib.hid (C8.out.below hb C8.out.lt)
  replace C9 := Lib.hid (C9.out.below hb C9.out.lt)
  replace TD := Lib.hid (TD.out.below hb)
  replace TN := Lib.hid (TN.out.below hb)
  replace HBW := Lib.hid (HBW.out.trans (hb.mono HBW.out.size))
  clear hb p0 p1
  have p0 := C9.out.cell 0
  have p1 := C9.out.cell 1
  simp only [List.getElem?_cons_succ, List.getElem?_cons_zero] at p0 p1
  go_wp2_with fail
  refine (HNG.out _ _ TN.out).mono ?_
  rintro e w16 ⟨⟨A10, c10, rfl, ht10⟩, hb⟩
  replace CR := Lib.hid (CR.out.below hb CR.out.lt)
  replace C8 := Lib.hid (C8.out.below hb C8.out.lt)
  replace C9 := Lib.hid (C9.out.below hb C9.out.lt)
  replace TD := Lib.hid (TD.out.below hb)
  replace HBW := Lib.hid (HBW.out.trans (hb.mono HBW.out.size))
  replace TN := Lib.hid ht10
  clear hb ht10 p0 p1
  have p0 := C9.out.cell 0
  have p1 := C9.out.cell 1
  have f0 := C9.out.free 0
  have f1 := C9.out.free 1
  simp only [List.getElem?_cons_succ, List.getElem?_cons_zero] at p0 p1
  go_upto_region 19 with (fail)
  obtain ⟨W17, hW17⟩ : ∃ W17, W17 = (w16.setCell ⟨B9, 0, Option.none⟩ (.bool FL)).setCell ⟨B9, 1, Option.none⟩ (.slice A10 m9 c10) := ⟨_, rfl⟩
  rw [← hW17]
  replace TN := Lib.hid (show TRow W17 _ _ by rw [hW17]; exact (TN.out.set C9.out (by decide) _).set (C9.out.set 0 _) (by decide) _)
  replace TD := Lib.hid (show TRow W17 _ _ by rw [hW17]; exact (TD.out.set C9.out (by decide) _).set (C9.out.set 0 _) (by decide) _)
  replace CR := Lib.hid (show Cells W17 _ _ _ by rw [hW17]; exact (CR.out.far (by show w.heap.size ≠ B9; omega) _).far (by show w.heap.size ≠ B9; omega) _)
  replace C8 := Lib.hid (show Cells W17 _ _ _ by rw [hW17]; exact (C8.out.far (by show w3.heap.size ≠ B9; omega) _).far (by show w3.heap.size ≠ B9; omega) _)
  replace HBW := Lib.hid (show Below w.heap.size w W17 by rw [hW17]; exact (HBW.out.setCell (by show w.heap.size ≤ B9; omega) _).setCell (by show w.heap.size ≤ B9; omega) _)
  replace C9 := Lib.hid (show Cells W17 B9 _ [.bool FL, .slice A10 m9 c10] by rw [hW17]; exact (C9.out.set 0 _).set 1 _)
  clear hW17 p0 p1 f0 f1
  have p0 := C8.out.cell 0
  have p1 := C8.out.cell 1
  simp only [List.getElem?_cons_succ, List.getElem?_cons_zero] at p0 p1
  have q0 := C9.out.cell 0
  have q1 := C9.out.cell 1
  simp only [List.getElem?_cons_succ, List.getElem?_cons_zero] at q0 q1
  go_wp2_with fail
  refine (HMK.out _ _ _ (HS.out.below HBW.out (Nat.le_refl _)) TN.out TD.out).mono ?_
  rintro e w18 ⟨rfl, hb⟩
  replace CR := Lib.hid (CR.out.below hb CR.out.lt)
  replace HBW := Lib.hid (HBW.out.trans (hb.mono HBW.out.size))
  clear hb p0 p1 q0 q1
  have q0 := CR.out.cell 0
  have q1 := CR.out.cell 1
  have q2 := CR.out.free 0
  have q3 := CR.out.free 1
  simp only [List.getElem?_cons_succ, List.getElem?_cons_zero] at q0 q1
  have hbw2 := HBW.out
  go_wp2_with fail
  refine bodyPost_ret (v := .tuple #[.agg #[.string ⟨la.toArray⟩, .string ⟨lb.toArray⟩], .int .i64 0]) (by simp [results, Tryz.results98, go_sem, q0, q1]) rfl ⟨rfl, ?_⟩
  exact (hbw2.setCell (Nat.le_refl _) _).setCell (Nat.le_refl _) _

theorem trimPre_neg (s : List UInt8) : decide ((Lib.trimPrefix s [45]).length < s.length) = Lib.hasPrefix s [45] := by
  unfold Lib.trimPrefix
  cases h : Lib.hasPrefix s [45] with
  | false => rw [if_neg (by decide)]; simp
  | true =>
    rw [if_pos rfl]
    cases s with
    | nil => cases h
    | cons c t => simp
theorem p03_gen (s t : List UInt8) (b : Bool) (k : Int) (w : World) (hS : Std w) (hl : s.length ≤ 400) (ht : t.length ≤ s.length) (hb : decide (t.length < s.length) = b) (hc : TpIs s t) (hi : IdxIs t k) (hk : k = -1 ∨ ∃ j : Nat, k = j ∧ j < t.length ∧ (t[j]?.getD 0 = 47 ∨ t[j]?.getD 0 = 46)) :
    Calls Tryz.prog 98 #[.string ⟨s.toArray⟩] w fun e w' => e = .returned (frdOut b (fracRead t k)) ∧ Below w.heap.size w w' := by
  rcases hk with rfl | ⟨j, rfl, hj, h⟩
  · have e : fracRead t (-1) = (if okDig t then .good (dval 0 t) 1 else .bad 15) := by unfold fracRead; rw [if_pos (by omega)]
    rw [e]
    exact p03_none s t b w hS hl ht hb hc hi
  · have hp := part_at hj
    have hjl : (t.take j).length = j := by rw [List.length_take]; omega
    have hdl : (t.drop (j + 1)).length = t.length - j - 1 := by rw [List.length_drop]; omega
    rcases h with h | h
    · have e : fracRead t (j : Int) = (if okDig (t.take j) && okDig (t.drop (j + 1)) then (if dval 0 (t.drop (j + 1)) = 0 then .bad 17 else .good (dval 0 (t.take j)) (dval 0 (t.drop (j + 1)))) else .bad 15) := by
        unfold fracRead; rw [if_neg (by omega), Int.toNat_natCast, if_pos h]
      rw [e]
      rw [h] at hp
      rw [← hjl] at hi
      generalize t.take j = ta at *
      generalize t.drop (j + 1) = tb at *
      subst hp
      cases ho : okDig ta with
      | false => rw [Bool.false_and, if_neg (by decide)]; exact p03_sl_bad1 s ta tb b w hS hl ht hc hi ho
      | true =>
        cases ho2 : okDig tb with
        | false => rw [Bool.true_and, if_neg (by decide)]; exact p03_sl_bad2 s ta tb b w hS hl ht hc hi ho ho2
        | true =>
          rw [Bool.true_and, if_pos rfl]
          by_cases hz : dval 0 tb = 0
          · rw [if_pos hz]; exact p03_sl_zero s ta tb b w hS hl ht hc hi ho ho2 hz
          · rw [if_neg hz]
            cases b with
            | false => exact p03_sl_pos s ta tb w hS hl ht (of_decide_eq_false hb) hc hi ho ho2 (by omega)
            | true => exact p03_sl_neg s ta tb w hS hl (of_decide_eq_true hb) hc hi ho ho2 (by omega)
    · have e : fracRead t (j : Int) = (if okDig (t.take j) && okDig (t.drop (j + 1)) then .good (dval 0 (t.take j ++ t.drop (j + 1))) (10 ^ (t.drop (j + 1)).length) else .bad 15) := by
        unfold fracRead; rw [if_neg (by omega), Int.toNat_natCast, if_neg (by rw [h]; decide), hdl]
      rw [e]
      rw [h] at hp
      rw [← hjl] at hi
      clear hdl
      generalize t.take j = ta at *
      generalize t.drop (j + 1) = tb at *
      subst hp
      cases ho : okDig ta with
      | false => rw [Bool.false_and, if_neg (by decide)]; exact p03_pt_bad1 s ta tb b w hS hl ht hc hi ho
      | true =>
        cases ho2 : okDig tb with
        | false => rw [Bool.true_and, if_neg (by decide)]; exact p03_pt_bad2 s ta tb b w hS hl ht hc hi ho ho2
        | true =>
          rw [Bool.true_and, if_pos rfl]
          cases b with
          | false => exact p03_pt_pos s ta tb w hS hl ht (of_decide_eq_false hb) hc hi ho ho2
          | true => exact p03_pt_neg s ta tb w hS hl (of_decide_eq_true hb) hc hi ho ho2

/-- schismaref03.Parse of any text. -/
theorem parse03_any (s : List UInt8) (w : World) (hS : Std w) (hl : s.length ≤ 1000000) :
    Calls Tryz.prog 98 #[.string ⟨s.toArray⟩] w fun e w' => e = .returned (frdOut (isNeg s) (fracOf s)) ∧ Below w.heap.size w w' := by
  by_cases h4 : 400 < s.length
  · unfold isNeg fracOf
    rw [if_pos h4, if_pos h4]
    exact p03_long s w h4 hl
  · have htl := trimPre_len s [45]
    have htp : TpIs s (Lib.trimPrefix s [45]) := fun W => trimPrefix_any s [45] W
    by_cases ha : ∀ x ∈ s, x.toNat < 128
    · have hk3 : IdxIs (Lib.trimPrefix s [45]) (Lib.indexAny (Lib.trimPrefix s [45]) [47, 46]) := fun W => indexAny_ascii _ [47, 46] W (by omega) (by decide) (fun x hx => ha x (by
        unfold Lib.trimPrefix at hx
        split at hx
        · exact List.mem_of_mem_drop hx
        · exact hx)) (by decide)
      have h := p03_gen s _ _ _ w hS (by omega) htl (trimPre_neg s) htp hk3 (indexAny_place _)
      unfold isNeg fracOf fracIdx
      rw [if_neg h4, if_neg h4]
      exact h
    · obtain ⟨x, hx, h128⟩ : ∃ x ∈ s, 128 ≤ x.toNat := by
        rcases Classical.em (∃ x ∈ s, 128 ≤ x.toNat) with h | h
        · exact h
        · exact absurd (fun x hx => by rcases Nat.lt_or_ge x.toNat 128 with h1 | h1; exact h1; exact absurd ⟨x, hx, h1⟩ h) ha
      have hxt : x ∈ Lib.trimPrefix s [45] := by
        unfold Lib.trimPrefix
        split
        · rename_i hp
          unfold Lib.hasPrefix at hp
          cases s with
          | nil => cases hp
          | cons c t =>
            simp [List.isPrefixOf] at hp
            rcases List.mem_cons.1 hx with hx | hx
            · rw [hx, ← hp] at h128; exact absurd h128 (by decide)
            · exact hx
        · exact hx
      obtain ⟨k, hk1, hk2⟩ := idx_any (Lib.trimPrefix s [45]) (by omega)
      have h := p03_gen s _ _ k w hS (by omega) htl (trimPre_neg s) htp hk1 hk2
      unfold isNeg fracOf fracIdx
      rw [if_neg h4, if_neg h4, fracRead_junk hxt h128 (indexAny_place _)]
      rw [fracRead_junk hxt h128 hk2] at h
      exact h

end Go.Proofs.YtagfnnongamneaaGreatDoor
