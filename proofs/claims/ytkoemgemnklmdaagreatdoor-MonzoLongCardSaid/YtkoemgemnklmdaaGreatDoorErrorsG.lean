/- MonzoErrors: the walk. -/
import Derived.Test.YtkoemgemnklmdaaGreatDoorGG
namespace Go.Proofs.YtkoemgemnklmdaaGreatDoor
open Go.RowKit Go.Lib

theorem rat_eql (w : World) : (binOp .eql 38 (.agg #[.string ⟨#[]⟩, .string ⟨#[]⟩]) (.agg #[.string ⟨#[]⟩, .string ⟨#[]⟩])).run Tryz.prog w = .ok (.bool true) w := by kernel_rfl

set_option maxRecDepth 100000 in
set_option maxHeartbeats 4000000 in
theorem errors_walk (pv xv yv : Value) (p x y : List Int) (w : World) (hS : Std w) (hp : IsRow w w.heap.size pv p) (hx : IsRow w w.heap.size xv x) (hy : IsRow w w.heap.size yv y) :
    Calls Tryz.prog 10 #[pv, xv, yv] w fun e w' => e = .returned (.bool true) ∧ Below w.heap.size w w' := by
  have HS := Lib.hid hS
  have HP := Lib.hid hp
  have HX := Lib.hid hx
  have HY := Lib.hid hy
  have HK := Lib.hid (fun W hW => known_any W hW)
  clear hS
  obtain ⟨AP, cp, rfl, _⟩ := hp
  obtain ⟨AX, cx, rfl, _⟩ := hx
  obtain ⟨AY, cy, rfl, _, hym, _⟩ := hy
  unfold maxLen at hym
  have hyl : y.length ≤ 9223372036854775807 := by omega
  clear hym
  have HFW := Lib.hid (fun W h1 h2 => few_any (.slice AP p.length cp) (.slice AX x.length cx) p x W h1 h2)
  by_cases hcase : fewB p x = true ∧ y.length ≤ 8
  · obtain ⟨hf, hy8⟩ := hcase
    rw [hf] at HFW
    clear hf
    have HL1 := Lib.hid (fun W h1 h2 => lawCheck_any (.slice AP p.length cp) (.slice AX x.length cx) p x W h1 h2)
    have HL2 := Lib.hid (fun W h1 h2 => lawCheck_any (.slice AP p.length cp) (.slice AY y.length cy) p y W h1 h2)
    go_enter Tryz.func10, Tryz.ntmps10
    go_wp2_with fail
    refine (HK.out w HS.out).mono ?_
    rintro e w1 ⟨rfl, hbw1⟩
    have HP1 := Lib.hid (HP.out.lift hbw1)
    have HX1 := Lib.hid (HX.out.lift hbw1)
    have HY1 := Lib.hid (HY.out.lift hbw1)
    have HS1 := Lib.hid (HS.out.below hbw1 (Nat.le_refl _))
    go_wp2_with fail
    refine (HFW.out _ HP1.out HX1.out).mono ?_
    rintro e w2 ⟨rfl, rfl⟩
    clear HP HX HY HS HFW HK
    go_wp2_with fail
    refine (HL1.out _ HP1.out HX1.out).mono ?_
    rintro e w2 ⟨rfl, rfl⟩
    go_wp2_with fail
    refine (HL1.out _ HP1.out HX1.out).mono ?_
    rintro e w2 ⟨rfl, rfl⟩
    clear HL1
    by_cases h0 : chkAll p [x] = 0
    · rw [h0]
      go_wp2_with fail
      refine (HL2.out _ HP1.out HY1.out).mono ?_
      rintro e w2 ⟨rfl, rfl⟩
      clear HL2
      by_cases h2 : chkAll p [y] = 0
      · rw [h2]
        go_wp2_with fail
        go_ret
        exact ⟨rfl, hbw1⟩
      · have hpe := chk_pair_ok (y := y) h0
        have hq : (chkAll p [x, y] != 0) = true := by rw [hpe]; simpa using h2
        have HA := Lib.hid (fun W h1 h2 h3 => add_err AP AX AY cp cx cy p x y W h1 h2 h3 hq)
        have HB := Lib.hid (fun W h1 h2 h3 => sub_err AP AX AY cp cx cy p x y W h1 h2 h3 hq)
        have HC := Lib.hid (fun W h1 h2 h3 => compare_err AP AX AY cp cx cy p x y W h1 h2 h3 hq)
        rw [hpe] at HA HB HC
        have h2' : (chkAll p [y] == 0) = false := by simpa using h2
        clear hq hpe h0 h2
        generalize chkAll p [y] = q at *
        go_wp2_with fail
        refine (HA.out _ HP1.out HX1.out HY1.out).mono ?_
        rintro e w2 ⟨rfl, hb2⟩
        have HP2 := Lib.hid (HP1.out.lift hb2)
        have HX2 := Lib.hid (HX1.out.lift hb2)
        have HY2 := Lib.hid (HY1.out.lift hb2)
        have hbw2 := hbw1.trans (hb2.mono hbw1.size)
        clear HP1 HX1 HY1 HS1 hb2
        go_wp2_with fail
        refine (HB.out _ HP2.out HX2.out HY2.out).mono ?_
        rintro e w3 ⟨rfl, hb3⟩
        have HP3 := Lib.hid (HP2.out.lift hb3)
        have HX3 := Lib.hid (HX2.out.lift hb3)
        have HY3 := Lib.hid (HY2.out.lift hb3)
        have hbw3 := hbw2.trans (hb3.mono hbw2.size)
        clear HP2 HX2 HY2 hb3
        go_wp2_with fail
        refine (HC.out _ HP3.out HX3.out HY3.out).mono ?_
        rintro e w4 ⟨rfl, hb4⟩
        have hbw4 := hbw3.trans (hb4.mono hbw3.size)
        go_wp2_with fail
        go_ret
        exact ⟨rfl, hbw4⟩
    · have h1' : (chkAll p [x] != 0) = true := by simpa using h0
      have h2' : (chkAll p [x] == 0) = false := by simpa using h0
      have hpe := chk_pair_err (y := y) h0
      have hq : (chkAll p [x, y] != 0) = true := by rw [hpe]; exact h1'
      have HA := Lib.hid (fun W h1 h2 h3 => add_err AP AX AY cp cx cy p x y W h1 h2 h3 hq)
      have HB := Lib.hid (fun W h1 h2 h3 => sub_err AP AX AY cp cx cy p x y W h1 h2 h3 hq)
      have HC := Lib.hid (fun W h1 h2 h3 => compare_err AP AX AY cp cx cy p x y W h1 h2 h3 hq)
      rw [hpe] at HA HB HC
      have HF := Lib.hid (fun W h1 h2 => fraction_err (.slice AP p.length cp) (.slice AX x.length cx) p x W h1 h2 h1')
      have HT := Lib.hid (fun W (h1 : IsRow W W.heap.size (.slice AP p.length cp) p) (h2 : IsRow W W.heap.size (.slice AX x.length cx) x) => monText_no _ _ p x (chkAll p [x]) W h1' h1.shape h2.shape (fraction_err _ _ p x W h1 h2 h1'))
      have HN := Lib.hid (fun W h1 h2 => neg_err AP AX cp cx p x W h1 h2 h1')
      have HW := Lib.hid (fun W h1 h2 => power_err AP AX cp cx p x 2 W h1 h2 h1')
      have HG := Lib.hid (fun W h1 h2 => sign_err AP AX cp cx p x W h1 h2 h1')
      have HPD := Lib.hid (fun W h1 h2 => product_err (.slice AP p.length cp) (.slice AX x.length cx) p x W h1 h2 h1')
      have HGR := Lib.hid (fun W h1 h2 => greater_err AP AX cp cx p x W h1 h2 h1')
      have HOD := Lib.hid (fun W h1 h2 => odd_err AP AX cp cx p x W h1 h2 h1')
      have HSP := Lib.hid (fun W h1 h2 => superp_err AP AX cp cx p x W h1 h2 h1')
      clear hq hpe h0
      generalize chkAll p [x] = q at *
      go_wp2_with fail
      refine (HA.out _ HP1.out HX1.out HY1.out).mono ?_
      rintro e w2 ⟨rfl, hb2⟩
      have HP2 := Lib.hid (HP1.out.lift hb2)
      have HX2 := Lib.hid (HX1.out.lift hb2)
      have HY2 := Lib.hid (HY1.out.lift hb2)
      have hbw2 := hbw1.trans (hb2.mono hbw1.size)
      clear HP1 HX1 HY1 HS1 hb2 hbw1
      go_wp2_with fail
      refine (HB.out _ HP2.out HX2.out HY2.out).mono ?_
      rintro e w3 ⟨rfl, hb3⟩
      have HP3 := Lib.hid (HP2.out.lift hb3)
      have HX3 := Lib.hid (HX2.out.lift hb3)
      have HY3 := Lib.hid (HY2.out.lift hb3)
      have hbw3 := hbw2.trans (hb3.mono hbw2.size)
      clear HP2 HX2 HY2 hb3 hbw2
      go_wp2_with fail
      refine (HC.out _ HP3.out HX3.out HY3.out).mono ?_
      rintro e w4 ⟨rfl, hb4⟩
      have HP4 := Lib.hid (HP3.out.lift hb4)
      have HX4 := Lib.hid (HX3.out.lift hb4)
      have hbw4 := hbw3.trans (hb4.mono hbw3.size)
      clear HP3 HX3 HY3 hb4 hbw3 HA HB HC HL2
      go_wp2_with fail
      refine (HF.out _ HP4.out HX4.out).mono ?_
      rintro e w5 ⟨rfl, hb5⟩
      have HP5 := Lib.hid (HP4.out.lift hb5)
      have HX5 := Lib.hid (HX4.out.lift hb5)
      have hbw5 := hbw4.trans (hb5.mono hbw4.size)
      clear HP4 HX4 hb5 hbw4 HF
      have hbA : Below w5.heap.size w5 (w5.alloc (.cells #[.string ⟨#[]⟩, .string ⟨#[]⟩] 38)) := (Below.refl _ _).alloc (Nat.le_refl _) _
      have HP6 := Lib.hid (HP5.out.lift hbA)
      have HX6 := Lib.hid (HX5.out.lift hbA)
      have hbw6 := hbw5.trans (hbA.mono hbw5.size)
      have hk6 : Below (w5.heap.size + 1) (w5.alloc (.cells #[.string ⟨#[]⟩, .string ⟨#[]⟩] 38)) (w5.alloc (.cells #[.string ⟨#[]⟩, .string ⟨#[]⟩] 38)) := Below.refl _ _
      clear HP5 HX5 hbA hbw5
      go_wp2_with fail
      refine (HT.out _ HP6.out HX6.out).mono ?_
      rintro e w7 ⟨rfl, hb7⟩
      have HP7 := Lib.hid (HP6.out.lift hb7)
      have HX7 := Lib.hid (HX6.out.lift hb7)
      have hbw7 := hbw6.trans (hb7.mono hbw6.size)
      have hk7 := hk6.trans (hb7.mono (Nat.le_trans (by simp) hk6.size))
      clear HP6 HX6 hbw6 hk6 hb7 HT
      go_wp2_with fail
      refine (HN.out _ HP7.out HX7.out).mono ?_
      rintro e w8 ⟨rfl, hb8⟩
      have HP8 := Lib.hid (HP7.out.lift hb8)
      have HX8 := Lib.hid (HX7.out.lift hb8)
      have hbw8 := hbw7.trans (hb8.mono hbw7.size)
      have hk8 := hk7.trans (hb8.mono (Nat.le_trans (by simp) hk7.size))
      clear HP7 HX7 hbw7 hk7 hb8 HN
      go_wp2_with fail
      refine (HW.out _ HP8.out HX8.out).mono ?_
      rintro e w9 ⟨rfl, hb9⟩
      have HP9 := Lib.hid (HP8.out.lift hb9)
      have HX9 := Lib.hid (HX8.out.lift hb9)
      have hbw9 := hbw8.trans (hb9.mono hbw8.size)
      have hk9 := hk8.trans (hb9.mono (Nat.le_trans (by simp) hk8.size))
      clear HP8 HX8 hbw8 hk8 hb9 HW
      go_wp2_with fail
      refine (HG.out _ HP9.out HX9.out).mono ?_
      rintro e w10 ⟨rfl, hb10⟩
      have HP10 := Lib.hid (HP9.out.lift hb10)
      have HX10 := Lib.hid (HX9.out.lift hb10)
      have hbw10 := hbw9.trans (hb10.mono hbw9.size)
      have hk10 := hk9.trans (hb10.mono (Nat.le_trans (by simp) hk9.size))
      clear HP9 HX9 hbw9 hk9 hb10 HG
      go_wp2_with fail
      refine (HPD.out _ HP10.out HX10.out).mono ?_
      rintro e w11 ⟨rfl, hb11⟩
      have HP11 := Lib.hid (HP10.out.lift hb11)
      have HX11 := Lib.hid (HX10.out.lift hb11)
      have hbw11 := hbw10.trans (hb11.mono hbw10.size)
      have hk11 := hk10.trans (hb11.mono (Nat.le_trans (by simp) hk10.size))
      clear HP10 HX10 hbw10 hk10 hb11 HPD
      go_wp2_with fail
      refine (HGR.out _ HP11.out HX11.out).mono ?_
      rintro e w12 ⟨rfl, hb12⟩
      have HP12 := Lib.hid (HP11.out.lift hb12)
      have HX12 := Lib.hid (HX11.out.lift hb12)
      have hbw12 := hbw11.trans (hb12.mono hbw11.size)
      have hk12 := hk11.trans (hb12.mono (Nat.le_trans (by simp) hk11.size))
      clear HP11 HX11 hbw11 hk11 hb12 HGR
      go_wp2_with fail
      refine (HOD.out _ HP12.out HX12.out).mono ?_
      rintro e w13 ⟨rfl, hb13⟩
      have HP13 := Lib.hid (HP12.out.lift hb13)
      have HX13 := Lib.hid (HX12.out.lift hb13)
      have hbw13 := hbw12.trans (hb13.mono hbw12.size)
      have hk13 := hk12.trans (hb13.mono (Nat.le_trans (by simp) hk12.size))
      clear HP12 HX12 hbw12 hk12 hb13 HOD
      go_wp2_with fail
      refine (HSP.out _ HP13.out HX13.out).mono ?_
      rintro e w14 ⟨rfl, hb14⟩
      have HP14 := Lib.hid (HP13.out.lift hb14)
      have HX14 := Lib.hid (HX13.out.lift hb14)
      have hbw14 := hbw13.trans (hb14.mono hbw13.size)
      have hk14 := hk13.trans (hb14.mono (Nat.le_trans (by simp) hk13.size))
      clear HP13 HX13 hbw13 hk13 hb14 HSP
      obtain ⟨q0, q1⟩ := rat_cells hk14
      clear hk14 HP14 HX14
      have heq := rat_eql
      go_wp2_with fail
      go_ret
      exact ⟨rfl, hbw14⟩
  · by_cases hf : fewB p x = true
    · have hy8 : 8 < y.length := by
        rcases Nat.lt_or_ge 8 y.length with h | h
        · exact h
        · exact absurd ⟨hf, h⟩ hcase
      rw [hf] at HFW
      clear hf hcase
      go_enter Tryz.func10, Tryz.ntmps10
      go_wp2_with fail
      refine (HK.out w HS.out).mono ?_
      rintro e w1 ⟨rfl, hb1⟩
      go_wp2_with fail
      refine (HFW.out _ (HP.out.lift hb1) (HX.out.lift hb1)).mono ?_
      rintro e w2 ⟨rfl, rfl⟩
      go_wp2_with fail
      refine (HK.out _ (HS.out.below hb1 (Nat.le_refl _))).mono ?_
      rintro e w3 ⟨rfl, hb3⟩
      go_wp2_with fail
      go_ret
      exact ⟨rfl, hb1.trans (hb3.mono hb1.size)⟩
    · rw [show fewB p x = false by simpa using hf] at HFW
      clear hf hcase
      go_enter Tryz.func10, Tryz.ntmps10
      go_wp2_with fail
      refine (HK.out w HS.out).mono ?_
      rintro e w1 ⟨rfl, hb1⟩
      go_wp2_with fail
      refine (HFW.out _ (HP.out.lift hb1) (HX.out.lift hb1)).mono ?_
      rintro e w2 ⟨rfl, rfl⟩
      go_wp2_with fail
      refine (HK.out _ (HS.out.below hb1 (Nat.le_refl _))).mono ?_
      rintro e w3 ⟨rfl, hb3⟩
      go_wp2_with fail
      go_ret
      exact ⟨rfl, hb1.trans (hb3.mono hb1.size)⟩

end Go.Proofs.YtkoemgemnklmdaaGreatDoor
