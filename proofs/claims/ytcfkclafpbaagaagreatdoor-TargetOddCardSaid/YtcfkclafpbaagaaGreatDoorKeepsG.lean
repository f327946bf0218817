/- TargetKeeps: the walk. -/
import Derived.Test.YtcfkclafpbaagaaGreatDoorReduceG
import Derived.Test.YtcfkclafpbaagaaGreatDoorGTP
namespace Go.Proofs.YtcfkclafpbaagaaGreatDoor
open Go.RowKit Go.Lib Go.Shelf

section
variable {p : List Int} {a : Nat} {LG : List Nat} {L : List (List Int)}
theorem kR_sm (hT : TabOk p a LG) (hL : ∀ x ∈ L, SmR p x) : ∀ y ∈ kR p L, SmR p y := fun y hy => by
  obtain ⟨x, hx, _, rfl⟩ := ((kR_ok hT (fun x hx => (hL x hx).len)).2 y).1 hy
  exact smR_r hT (hL x hx)
theorem kL_sm (hT : TabOk p a LG) (hL : ∀ x ∈ L, SmR p x) : ∀ y ∈ kLs p L, SmR p y := fun y hy => by
  obtain ⟨x, hx, _, rfl⟩ := ((kL_ok hT (fun x hx => (hL x hx).len)).2 y).1 hy
  rcases mn_or p x with e | e
  · rw [e]; exact smR_r hT (hL x hx)
  · rw [e]; exact smR_c hT (hL x hx)
theorem kC_sm (hT : TabOk p a LG) (hL : ∀ x ∈ L, SmR p x) : ∀ y ∈ kCl p L, SmR p y := fun y hy => by
  obtain ⟨x, hx, _, h⟩ := ((kC_ok hT (fun x hx => (hL x hx).len)).2 y).1 hy
  rcases h with rfl | rfl
  · exact smR_r hT (hL x hx)
  · exact smR_c hT (hL x hx)
theorem kR_le (p : List Int) (L : List (List Int)) : (kR p L).length ≤ L.length := by
  have h1 := once_len p (selsW p (rOf p) (cOf p) L L.length)
  have h2 := selsW_len p (rOf p) (cOf p) L L.length
  unfold kR; omega
theorem kL_le (p : List Int) (L : List (List Int)) : (kLs p L).length ≤ L.length := by
  have h1 := once_len p (selsL p (rOf p) (cOf p) L L.length)
  have h2 := selsL_len p (rOf p) (cOf p) L L.length
  unfold kLs; omega
theorem kC_le (p : List Int) (L : List (List Int)) : (kCl p L).length ≤ 2 * L.length := by
  have h1 := once_len p (selsP p (rOf p) (cOf p) L L.length)
  have h2 := selsP_len p (rOf p) (cOf p) L L.length
  unfold kCl; omega
theorem kp_reduce (hT : TabOk p a LG) (hL : ∀ x ∈ L, SmR p x) (hn : L.length ≤ 200) (pv : Value) (B : Option Addr) (c : Nat) (W : World) (hS : Std W) (hp : IsRow W W.heap.size pv p) (hl : RowsAt W W.heap.size B L) :
    Calls Tryz.prog 18 #[pv, .slice B L.length c] W fun e w' => ListPost (kR p L) e w' ∧ Below W.heap.size W w' :=
  tgreduce_ok once_any pv p (p.length - 1) B c L (rOf p) (cOf p) W hS hp hl (rdsOk_sm hT hL) (by omega) (chk_all hT.pe (chk_row hL hT.pe))
theorem kp_lesser (hT : TabOk p a LG) (hL : ∀ x ∈ L, SmR p x) (hn : L.length ≤ 200) (pv : Value) (B : Option Addr) (c : Nat) (W : World) (hS : Std W) (hp : IsRow W W.heap.size pv p) (hl : RowsAt W W.heap.size B L) :
    Calls Tryz.prog 19 #[pv, .slice B L.length c] W fun e w' => ListPost (kLs p L) e w' ∧ Below W.heap.size W w' :=
  tglesser_ok once_any pv p (p.length - 1) B c L (rOf p) (cOf p) W hS hp hl (rdsOk_sm hT hL) (by omega) (chk_all hT.pe (chk_row hL hT.pe))
theorem kp_closed (hT : TabOk p a LG) (hL : ∀ x ∈ L, SmR p x) (hn : L.length ≤ 200) (pv : Value) (B : Option Addr) (c : Nat) (W : World) (hS : Std W) (hp : IsRow W W.heap.size pv p) (hl : RowsAt W W.heap.size B L) :
    Calls Tryz.prog 20 #[pv, .slice B L.length c] W fun e w' => ListPost (kCl p L) e w' ∧ Below W.heap.size W w' :=
  tgclosed_ok once_any pv p (p.length - 1) B c L (rOf p) (cOf p) W hS hp hl (rdsOk_sm hT hL) (by omega) (chk_all hT.pe (chk_row hL hT.pe))
end
theorem slt_next {p : List Int} {l : List (List Int)} (h : SLt p l) {j : Nat} (hj : j + 1 < l.length) : num p (l[j]) * den p (l[j + 1]) < num p (l[j + 1]) * den p (l[j]) := by
  have h2 := (List.pairwise_iff_getElem.1 h) j (j + 1) (by omega) hj (by omega)
  unfold ltR at h2
  rw [decide_eq_true_eq] at h2
  exact h2

set_option maxRecDepth 100000 in
set_option maxHeartbeats 8000000 in
theorem keeps_walk (n : Nat) (v1 : Value) (l1 : List (List Int)) (w : World) (hS : Std w) (hn : n ≤ 255) (hF : FoursArg w v1 l1) :
    Calls Tryz.prog 5 #[.int .u8 n, v1] w fun e w' => e = .returned (.bool true) ∧ Below w.heap.size w w' := by
  obtain ⟨i0, hi0, hz0, hz1, hz2⟩ := info_parts Tryz.info_row
  have HK := Lib.hid (fun W hW => known_any29 W hW)
  have hF0 := hF
  obtain ⟨A, c, rfl, hlm, _⟩ := hF
  have HS := Lib.hid hS
  unfold maxLen at hlm
  have hll : l1.length ≤ 9223372036854775807 := by omega
  clear hlm hS
  by_cases h8 : 8 < l1.length
  · have d8 : decide ((8 : Int) < (l1.length : Int)) = true := by rw [decide_eq_true_iff]; omega
    clear hF0
    go_enter Tryz.func5, Tryz.ntmps5
    go_wp2_with fail
    refine (HK.out w HS.out).mono ?_
    rintro e w1 ⟨rfl, hb1⟩
    go_wp2_with fail
    refine (HK.out w1 (HS.out.below hb1 (Nat.le_refl _))).mono ?_
    rintro e w2 ⟨rfl, hb2⟩
    go_wp2_with fail
    go_ret
    exact ⟨rfl, hb1.trans (hb2.mono hb1.size)⟩
  · have d8 : decide ((8 : Int) < (l1.length : Int)) = false := by rw [decide_eq_false_iff_not]; omega
    have hl8 : l1.length ≤ 8 := by omega
    have HF := Lib.hid hF0
    obtain ⟨p, hpE⟩ : ∃ p, p = primesOf n := ⟨_, rfl⟩
    obtain ⟨a, LG, hT0⟩ := tabOk n
    rw [← hpE] at hT0
    have HPA : Hid (∀ W, Calls Tryz.prog 12 #[.int .u8 n] W fun e w' => (∃ B c, e = .returned (.slice B p.length c) ∧ IsRow w' w'.heap.size (.slice B p.length c) p) ∧ Below W.heap.size W w') := Lib.hid (fun W => by rw [hpE]; exact primes_any n W hn)
    have HN := Lib.hid hn
    clear hF0 h8 hn hpE
    have HT : Box (TabOk p a LG) := ⟨hT0⟩
    have hple := hT0.le
    obtain ⟨L, hL⟩ : ∃ L, L = ivls p l1 := ⟨_, rfl⟩
    have hLL : L.length = l1.length := by rw [hL, ivls_len]
    have HLL := Lib.hid hLL
    have HLG : Hid (∀ k (h : k < l1.length) (h2 : k < L.length), L[k] = ivlTo l1[k] p.length) := Lib.hid (fun k h h2 => by subst hL; exact ivls_get h)
    have HLS : Box (∀ x ∈ L, SmR p x) := ⟨by rw [hL]; exact ivls_sm⟩
    clear hT0 hL hLL
    go_enter Tryz.func5, Tryz.ntmps5
    go_wp2_with fail
    refine (HK.out w HS.out).mono ?_
    rintro e w1 ⟨rfl, hb1⟩
    go_wp2_with fail
    refine (HPA.out w1).mono ?_
    rintro e w2 ⟨⟨AP, cp, rfl, hp2⟩, hb2⟩
    have hb2' := hb1.trans (hb2.mono hb1.size)
    have HP := Lib.hid hp2
    have HS2 := Lib.hid (HS.out.below hb2' (Nat.le_refl _))
    have HBW := Lib.hid hb2'
    have HF2 : Hid (∀ W, Below w2.heap.size w2 W → FoursArg W (.slice A l1.length c) l1) := Lib.hid (fun W hb => by
      obtain ⟨A', c', e, h1, h2⟩ := HF.out
      refine ⟨A', c', e, h1, fun k x hx => ?_⟩
      obtain ⟨h3, ad, e2, h4, h5⟩ := h2 k x hx
      have hbb := HBW.out.trans (hb.mono HBW.out.size)
      exact ⟨h3, ad, e2, Nat.lt_of_lt_of_le h4 hbb.size, fun j hj => by rw [hbb.cell (by rw [add_block]; exact h4)]; exact h5 j hj⟩)
    clear HK HPA HS HF hb1 hb2 hb2' hp2
    go_wp2_with fail
    go_loopw [6, 7] (fun vx i wr => ∃ k : Nat, k ≤ l1.length ∧ i = .int .i64 k ∧ Hid (LRow wr w2.heap.size vx (L.take k)) ∧ Below w2.heap.size w2 wr) (fun _ i _ => l1.length - (intOf i).toNat)
    case atStart => exact ⟨0, Nat.zero_le _, rfl, Lib.hid (LRow.nil _ _), Below.refl _ _⟩
    case round =>
      obtain ⟨k, hk, rfl, HX, hbw⟩ := hrel
      by_cases hlt : k < l1.length
      · obtain ⟨b, o, f0, f1, f2, f3, rfl, hbs, hfe, h4, t0, t1, t2, t3⟩ := four_at (HF2.out wr hbw) hlt
        have hkL : k < L.length := by rw [HLL.out]; exact hlt
        have hLk := HLG.out k hlt hkL
        rw [hfe] at hLk
        have HTK := Lib.hid (show L.take (k + 1) = L.take k ++ [ivlTo [f0, f1, f2, f3] p.length] by rw [← hLk]; exact (List.take_append_getElem hkL).symm)
        have HIV := Lib.hid (interval_own AP cp p.length f0 f1 f2 f3 wr hple h4)
        have HBD := Lib.hid hbw
        have hw2r := hbw.size
        clear hfe h4 hLk hbw
        generalize ivlTo [f0, f1, f2, f3] p.length = x at *
        go_wp2_with fail
        refine HIV.out.mono ?_
        rintro e w3 ⟨⟨A3, c3, rfl, ho3⟩, hb3⟩
        replace HX := Lib.hid (HX.out.below hb3)
        replace HBD := Lib.hid (HBD.out.trans (hb3.mono HBD.out.size))
        obtain ⟨vs, hown, hvs⟩ := HX.out
        have hlk : (L.take k).length = k := by rw [List.length_take]; omega
        rw [hlk] at hown
        have HLK := Lib.hid hlk
        have HO := Lib.hid hown
        have HVS := Lib.hid hvs
        have HR3 := Lib.hid ho3
        have hk8 : k ≤ 8 := by omega
        have hw3 : w2.heap.size ≤ w3.heap.size := HBD.out.size
        clear hown hvs ho3 hb3 HX hlk HIV t0 t1 t2 t3
        go_wp2_with (at_builtin; refine wpList_append_own _ rfl _ _ _ rfl w2.heap.size 28 i0 (.slice Option.none 0 0) 1 24 Tryz.underlying27 hi0 hz0 hz1 hz2 rfl (by decide) _ _ _ rfl (HO.out.alloc _) ⟨w3.heap.size, 0, Option.none⟩ 1 1 [_] rfl rfl (cell_one_new _ _ _) (by intro u hu; simp at hu; subst hu; rfl) (by unfold maxLen; omega) (by omega) (by simp; omega) ?_; intro v3 w4 hown3 hg3 _)
        have hal := HO.out.alloc (.cells #[.slice A3 x.length c3] 28)
        go_roundw
        case rel =>
          refine ⟨k + 1, by omega, by go_num, Lib.hid ?_, (HBD.out.alloc hw3 _).grown hg3 (by simp; omega) (fun j hj => (hal.lt j hj).1)⟩
          rw [HTK.out]
          exact LRow.snoc (by rw [HLK.out]; exact hal) (fun j z hz => by obtain ⟨u, h5, h6⟩ := HVS.out j z hz; exact ⟨u, h5, h6.alloc _⟩) (HR3.out.alloc _) (by rw [HLK.out]; exact hown3) hg3
        case measure => simp [intOf]; omega
      · obtain rfl : k = l1.length := by omega
        have htk : L.take l1.length = L := List.take_of_length_le (by rw [HLL.out]; exact Nat.le_refl _)
        have hx0 := HX.out
        rw [htk] at hx0
        obtain ⟨AX, cx, rfl⟩ := hx0.shape
        have hrx := hx0.rows.2
        have hL8 : L.length ≤ 8 := by rw [HLL.out]; exact hl8
        have hl9 : ∀ x ∈ L, x.length = p.length := fun x hx => (HLS.out x hx).len
        have e1 := keep_R HT.out hl9
        have e2 := keep_L HT.out hl9
        have e3 := keep_C HT.out hl9
        have e4 := keep_len HT.out hl9
        obtain ⟨s3, _⟩ := kC_ok HT.out hl9
        have b1 := kR_le p L
        have b2 := kL_le p L
        have b3 := kC_le p L
        have F1 := Lib.hid (fun B c W => kp_reduce HT.out HLS.out (by omega) (.slice AP p.length cp) B c W)
        have F2 := Lib.hid (fun B c W => kp_reduce HT.out (kR_sm HT.out HLS.out) (by omega) (.slice AP p.length cp) B c W)
        have F3 := Lib.hid (fun B c W => kp_lesser HT.out HLS.out (by omega) (.slice AP p.length cp) B c W)
        have F4 := Lib.hid (fun B c W => kp_closed HT.out HLS.out (by omega) (.slice AP p.length cp) B c W)
        have F5 := Lib.hid (fun B c W => kp_lesser HT.out (kC_sm HT.out HLS.out) (by omega) (.slice AP p.length cp) B c W)
        have F6 := Lib.hid (fun B c W => kp_closed HT.out (kL_sm HT.out HLS.out) (by omega) (.slice AP p.length cp) B c W)
        rw [e1] at F2
        rw [e2] at F5
        rw [e3] at F6
        have HLT := Lib.hid (fun (j : Nat) (hj : j + 1 < (kCl p L).length) => slt_next s3 hj)
        have hcs := kC_sm HT.out HLS.out
        have HCS : Hid (∀ z ∈ kCl p L, chkAll p [z] = 0) := Lib.hid (chk_row hcs HT.out.pe)
        have hne : (((kCl p L).length : Int) != 2 * ((kLs p L).length : Int)) = false := by rw [e4]; simp
        have HL4 := Lib.hid e4
        have n1 : (kR p L).length ≤ 1000 := by omega
        have n2 : (kLs p L).length ≤ 1000 := by omega
        have n3 : (kCl p L).length ≤ 1000 := by omega
        have HRX := Lib.hid hrx
        have HBD := Lib.hid hbw
        clear hx0 htk hrx hbw HX hL8 hl9 e1 e2 e3 e4 s3 b1 b2 b3 hcs HF2 HLS HLG
        generalize kR p L = M1 at *
        generalize kLs p L = M2 at *
        generalize kCl p L = M3 at *
        go_wp2_with fail
        refine (F1.out AX cx _ (HS2.out.below HBD.out (Nat.le_refl _)) (HP.out.lift HBD.out) HRX.out).mono ?_
        rintro e w3 ⟨⟨A3, c3, rfl, hr3⟩, hb3⟩
        replace HRX := Lib.hid (HRX.out.lift hb3)
        replace HBD := Lib.hid (HBD.out.trans (hb3.mono HBD.out.size))
        have HR3 := Lib.hid hr3
        clear hr3 hb3
        go_wp2_with fail
        refine (F2.out A3 c3 _ (HS2.out.below HBD.out (Nat.le_refl _)) (HP.out.lift HBD.out) HR3.out).mono ?_
        rintro e w4 ⟨⟨A4, c4, rfl, hr4⟩, hb4⟩
        replace HRX := Lib.hid (HRX.out.lift hb4)
        replace HR3 := Lib.hid (HR3.out.lift hb4)
        replace HBD := Lib.hid (HBD.out.trans (hb4.mono HBD.out.size))
        have HR4 := Lib.hid hr4
        clear hr4 hb4
        go_wp2_with fail
        refine (F3.out AX cx _ (HS2.out.below HBD.out (Nat.le_refl _)) (HP.out.lift HBD.out) HRX.out).mono ?_
        rintro e w5 ⟨⟨A5, c5, rfl, hr5⟩, hb5⟩
        replace HRX := Lib.hid (HRX.out.lift hb5)
        replace HR3 := Lib.hid (HR3.out.lift hb5)
        replace HR4 := Lib.hid (HR4.out.lift hb5)
        replace HBD := Lib.hid (HBD.out.trans (hb5.mono HBD.out.size))
        have HR5 := Lib.hid hr5
        clear hr5 hb5
        go_wp2_with fail
        refine (F4.out AX cx _ (HS2.out.below HBD.out (Nat.le_refl _)) (HP.out.lift HBD.out) HRX.out).mono ?_
        rintro e w6 ⟨⟨A6, c6, rfl, hr6⟩, hb6⟩
        replace HR3 := Lib.hid (HR3.out.lift hb6)
        replace HR4 := Lib.hid (HR4.out.lift hb6)
        replace HR5 := Lib.hid (HR5.out.lift hb6)
        replace HBD := Lib.hid (HBD.out.trans (hb6.mono HBD.out.size))
        have HR6 := Lib.hid hr6
        clear hr6 hb6
        go_wp2_with fail
        refine (F5.out A6 c6 _ (HS2.out.below HBD.out (Nat.le_refl _)) (HP.out.lift HBD.out) HR6.out).mono ?_
        rintro e w7 ⟨⟨A7, c7, rfl, hr7⟩, hb7⟩
        replace HR3 := Lib.hid (HR3.out.lift hb7)
        replace HR4 := Lib.hid (HR4.out.lift hb7)
        replace HR5 := Lib.hid (HR5.out.lift hb7)
        replace HR6 := Lib.hid (HR6.out.lift hb7)
        replace HBD := Lib.hid (HBD.out.trans (hb7.mono HBD.out.size))
        have HR7 := Lib.hid hr7
        clear hr7 hb7
        go_wp2_with fail
        refine (F6.out A5 c5 _ (HS2.out.below HBD.out (Nat.le_refl _)) (HP.out.lift HBD.out) HR5.out).mono ?_
        rintro e w8 ⟨⟨A8, c8, rfl, hr8⟩, hb8⟩
        replace HR3 := Lib.hid (HR3.out.lift hb8)
        replace HR4 := Lib.hid (HR4.out.lift hb8)
        replace HR5 := Lib.hid (HR5.out.lift hb8)
        replace HR6 := Lib.hid (HR6.out.lift hb8)
        replace HR7 := Lib.hid (HR7.out.lift hb8)
        replace HBD := Lib.hid (HBD.out.trans (hb8.mono HBD.out.size))
        have HR8 := Lib.hid hr8
        clear hr8 hb8
        have S1 := Lib.hid (same_any29 A3 A4 c3 c4 M1 M1 w8 HR3.out HR4.out (by omega))
        have S2 := Lib.hid (fun W (hb : Below w8.heap.size w8 W) => same_any29 A7 A5 c7 c5 M2 M2 W (HR7.out.lift hb) (HR5.out.lift hb) (by omega))
        have S3 := Lib.hid (fun W (hb : Below w8.heap.size w8 W) => same_any29 A8 A6 c8 c6 M3 M3 W (HR8.out.lift hb) (HR6.out.lift hb) (by omega))
        rw [rowsSame_refl] at S1
        simp only [rowsSame_refl] at S2 S3
        clear HR3 HR4 HR5 HR7 HR8 HRX F1 F2 F3 F4 F5 F6
        go_wp2_with fail
        refine S1.out.mono ?_
        rintro e w9 ⟨rfl, hb9⟩
        go_wp2_with fail
        refine (S2.out w9 hb9).mono ?_
        rintro e w10 ⟨rfl, hb10⟩
        have hb10' := hb9.trans (hb10.mono hb9.size)
        go_wp2_with fail
        refine (S3.out w10 hb10').mono ?_
        rintro e w11 ⟨rfl, hb11⟩
        have hb11' := hb10'.trans (hb11.mono hb10'.size)
        have HR11 := Lib.hid (HR6.out.lift hb11')
        have HB11 := Lib.hid (HBD.out.trans (hb11'.mono HBD.out.size))
        clear S1 S2 S3 hb9 hb10 hb10' hb11 hb11' HR6 HBD
        go_wp2_with fail
        go_loopw [20] (fun i wr => ∃ j : Nat, (j + 1 ≤ M3.length ∨ (j = 0 ∧ M3.length = 0)) ∧ i = .int .i64 ((j + 1 : Nat) : Int) ∧ Below w11.heap.size w11 wr) (fun i _ => M3.length + 1 - (intOf i).toNat)
        case atStart => exact ⟨0, by omega, rfl, Below.refl _ _⟩
        case round =>
          obtain ⟨j, hj, rfl, hbw⟩ := hrel
          by_cases hlt : j + 1 < M3.length
          · have hj0 : j < M3.length := by omega
            obtain ⟨b, o, u1, rfl, hab, hca, hr1⟩ := rows_plain HR11.out (List.getElem?_eq_getElem hj0)
            obtain ⟨b', o', u2, e', _, hcb, hr2⟩ := rows_plain HR11.out (List.getElem?_eq_getElem hlt)
            cases e'
            have HBW2 := HB11.out.trans (hbw.mono HB11.out.size)
            have q1 := (hbw.cell (p := ⟨b, o + j, Option.none⟩) hab).trans hca
            have q2 := (hbw.cell (p := ⟨b, o + (j + 1), Option.none⟩) hab).trans hcb
            have hc1 := HCS.out _ (List.getElem_mem hj0)
            have hc2 := HCS.out _ (List.getElem_mem hlt)
            have hcmp := HLT.out j hlt
            have HCM := Lib.hid (fun (W : World) (h : Below wr.heap.size wr W) => compare_mon (.slice AP p.length cp) u1 u2 p M3[j] M3[j + 1] W (HP.out.lift (HBW2.trans (h.mono HBW2.size))) ((hr1.lift hbw).lift h) ((hr2.lift hbw).lift h) (chk_join hc1 hc2) (HS2.out.below (HBW2.trans (h.mono HBW2.size)) (Nat.le_refl _)))
            have hcv : cmpN (num p M3[j] * den p M3[j + 1]) (num p M3[j + 1] * den p M3[j]) = -1 := by unfold cmpN; rw [if_pos hcmp]
            rw [hcv] at HCM
            have HBZ := Lib.hid hbw
            obtain ⟨AY, cy, rfl⟩ := hr1.shape
            obtain ⟨AZ, cz, rfl⟩ := hr2.shape
            have hj1 : ((j + 1 : Nat) : Int) - 1 = (j : Int) := by omega
            have hk1 : (0 : Int) ≤ (j : Int) := by omega
            have hk2 : (j : Int) < (M3.length : Int) := by omega
            have hk3 : ((j + 1 : Nat) : Int) < (M3.length : Int) := by omega
            have hk4 : (0 : Int) ≤ ((j + 1 : Nat) : Int) := by omega
            have hk5 : (j : Int) + 1 < (M3.length : Int) := by omega
            have hk6 : (0 : Int) ≤ (j : Int) + 1 := by omega
            have hw1 : IntKind.i64.wrap (j : Int) = (j : Int) := IntWalk.i64_in _ (by omega)
            have hw2 : IntKind.i64.wrap ((j : Int) + 1 - 1) = (j : Int) := by rw [show (j : Int) + 1 - 1 = (j : Int) by omega]; exact hw1
            have HLTN := Lib.hid hlt
            clear hca hcb hr1 hr2 hc1 hc2 hcmp hcv HBW2 hbw
            generalize M3[j].length = ny at *
            generalize M3[j + 1].length = nz at *
            have hB : Below wr.heap.size wr wr.drew := below_drew (Below.refl _ _)
            go_wp2_with fail
            go_region_held3 (fun w' => w'.cell? ⟨b, o + j, Option.none⟩ = some (.slice AY ny cy) ∧ w'.cell? ⟨b, o + (j + 1), Option.none⟩ = some (.slice AZ nz cz))
              (first | exact ⟨keep_cell q1 hB, keep_cell q2 hB⟩ | go_keep)
              ((first | (go_at_call 17; (with_reducible refine (HCM.out _ hB).mono ?_); rintro e w7 ⟨rfl, hbk⟩; replace hB := hB.trans (hbk.mono hB.size); clear hbk)))
            all_goals
              go_wp2_with fail
              go_roundw
              case rel => exact ⟨j + 1, by omega, by go_num, HBZ.out.trans (hB.mono HBZ.out.size)⟩
              case measure => simp [intOf]; omega
          · have hge : ¬ ((j + 1 : Nat) : Int) < (M3.length : Int) := by omega
            have hbz := HBW.out.trans ((HB11.out.trans (hbw.mono HB11.out.size)).mono HBW.out.size)
            go_wp2_with fail
            go_ret
            exact ⟨rfl, hbz⟩

end Go.Proofs.YtcfkclafpbaagaaGreatDoor
