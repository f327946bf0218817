/- TargetClosed: the walk. -/
import Derived.Test.YtcfkclafpbaagaaGreatDoorGTP
import Derived.Test.YtcfkclafpbaagaaGreatDoorKeepsG
namespace Go.Proofs.YtcfkclafpbaagaaGreatDoor
open Go.RowKit Go.Lib Go.Shelf

theorem odd_half (p : List Int) : ∀ m : Nat, 2 * (oddZ (smTo p m)).length ≤ m + 1
  | 0 => by simp [smTo, oddZ]
  | 1 => by have := Nat.le_trans (List.length_filter_le (fun z => decide (z % 2 = 1)) (smTo p 1)) (smTo_len p 1); unfold oddZ; omega
  | m + 2 => by
    have ih := odd_half p m
    have hone : ∀ (l : List Int) (z : Int), (oddZ (l ++ [z])).length ≤ (oddZ l).length + (if z % 2 = 1 then 1 else 0) := fun l z => by
      unfold oddZ
      rw [List.filter_append, List.length_append]
      by_cases h : z % 2 = 1
      · simp [h]
      · simp [h]
    have h1 : (oddZ (smTo p (m + 1))).length ≤ (oddZ (smTo p m)).length + (if ((m + 1 : Nat) : Int) % 2 = 1 then 1 else 0) := by
      conv => lhs; unfold smTo
      split
      · exact hone _ _
      · omega
    have h2 : (oddZ (smTo p (m + 2))).length ≤ (oddZ (smTo p (m + 1))).length + (if ((m + 1 + 1 : Nat) : Int) % 2 = 1 then 1 else 0) := by
      conv => lhs; unfold smTo
      split
      · exact hone _ _
      · omega
    split at h1 <;> split at h2 <;> omega
theorem odd_le (p : List Int) (m : Nat) : (oddZ (smTo p m)).length ≤ m := by
  unfold oddZ
  exact Nat.le_trans (List.length_filter_le _ _) (smTo_len p m)

section
variable {p : List Int} {a : Nat} {LG : List Nat}
theorem tOdd (hT : TabOk p a LG) (h2 : p[0]?.getD 0 = 2) {m : Nat} (hm1 : 1 ≤ m) (hm : m ≤ 99) (hlen : (oddZ (smTo p m)).length ≤ 20) (pv : Value) (W : World) (hS : Std W) (hp : IsRow W W.heap.size pv p) :
    Calls Tryz.prog 22 #[pv, .int .i64 m] W fun e w' => ListPost (oddR p m) e w' ∧ Below W.heap.size W w' :=
  odd_ok pv p m (oddR p m) W hS hp hT.pe h2 hm1 hm (fun lv W k1 k2 k3 => diamond_ok pv lv p (oddZ (smTo p m)) (p.length - 1) (rOf p) (cOf p) W k1 k2 hT.pe k3 hlen (odd_ok2 hm) (prsOk_gen hT.pe (odd_99 hm) hlen) (rdsOk_sm hT (difR_sm hT.pe (odd_99 hm))))
theorem tInt (hpe : primeErr p = 0) {m : Nat} (hm1 : 1 ≤ m) (hm : m ≤ 99) (hlen : (smTo p m).length ≤ 20) (pv : Value) (W : World) (hS : Std W) (hp : IsRow W W.heap.size pv p) :
    Calls Tryz.prog 23 #[pv, .int .i64 m] W fun e w' => ListPost (intR p m) e w' ∧ Below W.heap.size W w' :=
  integer_ok pv p m (intR p m) W hS hp hpe hm1 hm once_any (by rw [rowsM_eq]; exact prsOk_gen hpe (smTo_99 hm) hlen) (posB p) (fun x hx => ⟨smR_chk hpe (difR_sm hpe (smTo_99 hm) x hx), rfl⟩) rfl
theorem oddR_le (p : List Int) (m : Nat) (hm : m ≤ 15) : (oddR p m).length ≤ 300 := by
  have h1 := kR_le p (difR p (oddZ (smTo p m)))
  have h2 := once_len p (prsR (numsR p (oddZ (smTo p m))))
  have h3 := prsTo_len (numsR p (oddZ (smTo p m))) (numsR p (oddZ (smTo p m))).length 0 (Nat.le_refl _) (Nat.zero_le _)
  rw [prsTo_all] at h3
  have h4 : (numsR p (oddZ (smTo p m))).length ≤ 15 := by unfold numsR; rw [List.length_map]; have := odd_le p m; omega
  have h5 : (numsR p (oddZ (smTo p m))).length * (numsR p (oddZ (smTo p m))).length ≤ 15 * 15 := Nat.mul_le_mul h4 h4
  have h6 : (difR p (oddZ (smTo p m))).length = (onceL p (prsR (numsR p (oddZ (smTo p m))))).length := rfl
  have h7 : (oddR p m).length = (kR p (difR p (oddZ (smTo p m)))).length := rfl
  omega
theorem oddR_le2 (p : List Int) (m : Nat) (hm : m ≤ 15) : (oddR p m).length ≤ 100 := by
  have h1 := kR_le p (difR p (oddZ (smTo p m)))
  have h2 := once_len p (prsR (numsR p (oddZ (smTo p m))))
  have h3 := prsTo_len (numsR p (oddZ (smTo p m))) (numsR p (oddZ (smTo p m))).length 0 (Nat.le_refl _) (Nat.zero_le _)
  rw [prsTo_all] at h3
  have h4 : (numsR p (oddZ (smTo p m))).length ≤ 8 := by unfold numsR; rw [List.length_map]; have := odd_half p m; omega
  have h5 : (numsR p (oddZ (smTo p m))).length * (numsR p (oddZ (smTo p m))).length ≤ 8 * 8 := Nat.mul_le_mul h4 h4
  have h6 : (difR p (oddZ (smTo p m))).length = (onceL p (prsR (numsR p (oddZ (smTo p m))))).length := rfl
  have h7 : (oddR p m).length = (kR p (difR p (oddZ (smTo p m)))).length := rfl
  omega
theorem intR_le (p : List Int) (m : Nat) (hm : m ≤ 15) : (intR p m).length ≤ 300 := by
  have h1 := List.length_filter_le (posB p) (onceL p (prsR (rowsM p m)))
  have h2 := once_len p (prsR (rowsM p m))
  have h3 := prsTo_len (rowsM p m) (rowsM p m).length 0 (Nat.le_refl _) (Nat.zero_le _)
  rw [prsTo_all] at h3
  have h4 : (rowsM p m).length ≤ 15 := by unfold rowsM; rw [List.length_map]; have := smTo_len p m; omega
  have h5 : (rowsM p m).length * (rowsM p m).length ≤ 15 * 15 := Nat.mul_le_mul h4 h4
  unfold intR
  omega
end

set_option maxRecDepth 100000 in
set_option maxHeartbeats 8000000 in
theorem closed_walk (n : Nat) (x : Nat) (y : Nat) (w : World) (hS : Std w) (hn : n ≤ 255) (hx : x ≤ 255) (hy : y ≤ 255) :
    Calls Tryz.prog 4 #[.int .u8 n, .int .u8 x, .int .u8 y] w fun e w' => e = .returned (.bool true) ∧ Below w.heap.size w w' := by
  have HK := Lib.hid (fun W hW => known_any29 W hW)
  have HS := Lib.hid hS
  obtain ⟨p, hpE⟩ : ∃ p, p = primesOf n := ⟨_, rfl⟩
  obtain ⟨a, LG, hT0⟩ := tabOk n
  rw [← hpE] at hT0
  have HPA : Hid (∀ W, Calls Tryz.prog 12 #[.int .u8 n] W fun e w' => (∃ B c, e = .returned (.slice B p.length c) ∧ IsRow w' w'.heap.size (.slice B p.length c) p) ∧ Below W.heap.size W w') := Lib.hid (fun W => by rw [hpE]; exact primes_any n W hn)
  have HT : Box (TabOk p a LG) := ⟨hT0⟩
  have hpos := hT0.pos
  have hpi : (0 : Int) < (p.length : Int) := by omega
  clear hT0 hpE hS
  go_enter Tryz.func4, Tryz.ntmps4
  go_wp2_with fail
  refine (HPA.out w).mono ?_
  rintro e w1 ⟨⟨AP, cp, rfl, hp1⟩, hb1⟩
  have HP := Lib.hid hp1
  have HS1 := Lib.hid (HS.out.below hb1 (Nat.le_refl _))
  obtain ⟨A', c', e', _, _, hpr⟩ := hp1
  injection e' with e1 _ e3
  subst e1 e3
  obtain ⟨ad, rfl, hadb, hc0⟩ := hpr.i_at (k := 0) hpos
  rw [show ad.add 0 = ad by unfold Addr.add; simp] at hc0
  have HB1 := Lib.hid hb1
  clear hb1 hpr HPA
  go_wp2_with fail
  refine (HK.out w1 HS1.out).mono ?_
  rintro e w2 ⟨rfl, hb2⟩
  have hc2 := (hb2.cell (p := ad) hadb).trans hc0
  have HS2 := Lib.hid (HS1.out.below hb2 (Nat.le_refl _))
  have HP2 := Lib.hid (HP.out.lift hb2)
  have HB2 := Lib.hid (HB1.out.trans (hb2.mono HB1.out.size))
  clear hb2 HP HS1 HB1 hc0
  by_cases h2 : p[0]?.getD 0 = 2
  · have HP0 := Lib.hid h2
    rw [h2] at hc2
    clear h2
    obtain ⟨lo, hlo⟩ : ∃ lo : Nat, (lo : Int) = 1 + 2 * (min (x : Int) (y : Int) % 8) := ⟨(1 + 2 * (min (x : Int) (y : Int) % 8)).toNat, by omega⟩
    obtain ⟨hi, hhi⟩ : ∃ hi : Nat, (hi : Int) = 1 + max (2 * (min (x : Int) (y : Int) % 8)) (2 * (max (x : Int) (y : Int) % 8)) := ⟨(1 + max (2 * (min (x : Int) (y : Int) % 8)) (2 * (max (x : Int) (y : Int) % 8))).toNat, by omega⟩
    have h1 : 1 ≤ lo := by omega
    have h3 : lo ≤ hi := by omega
    have h4 : hi ≤ 15 := by omega
    have HLO := Lib.hid hlo
    have HHI := Lib.hid hhi
    have F1 := Lib.hid (fun W => tOdd HT.out HP0.out h1 (by omega) (by have := odd_le p lo; omega) (.slice (some ad) p.length cp) W)
    have F2 := Lib.hid (fun W => tOdd HT.out HP0.out (show 1 ≤ hi by omega) (by omega) (by have := odd_le p hi; omega) (.slice (some ad) p.length cp) W)
    have F4 := Lib.hid (fun W => tInt HT.out.pe (show 1 ≤ hi by omega) (by omega) (by have := smTo_len p hi; omega) (.slice (some ad) p.length cp) W)
    have b1 := oddR_le p lo (by omega)
    have b2 := oddR_le p hi h4
    have b3 := intR_le p hi h4
    have F3 := Lib.hid (fun B c W hS hp hl => tgclosed_ok once_any (.slice (some ad) p.length cp) p (p.length - 1) B c (oddR p hi) (rOf p) (cOf p) W hS hp hl (rdsOk_sm HT.out (oddR_sm HT.out (by omega))) (by have := oddR_le2 p hi h4; omega) (chk_all HT.out.pe (chk_row (oddR_sm HT.out (by omega)) HT.out.pe)))
    have F5 := Lib.hid (fun B c W hS hp hl => tgreduce_ok once_any (.slice (some ad) p.length cp) p (p.length - 1) B c (intR p hi) (rOf p) (cOf p) W hS hp hl (rdsOk_sm HT.out (intR_sm HT.out (by omega))) (by omega) (chk_all HT.out.pe (chk_row (intR_sm HT.out (by omega)) HT.out.pe)))
    have e3 : onceL p (selsP p (rOf p) (cOf p) (oddR p hi) (oddR p hi).length) = oddR p hi := odd_closed HT.out (by omega)
    rw [e3] at F3
    have HW1 := Lib.hid (rowsIn_of (odd_mono HT.out h3 (by omega)))
    have HW2 := Lib.hid (rowsIn_of (int_in_odd HT.out HP0.out (m := hi) (by omega)))
    have b4 := kR_le p (intR p hi)
    change Hid (∀ B c W, Std W → IsRow W W.heap.size (.slice (some ad) p.length cp) p → RowsAt W W.heap.size B (intR p hi) → Calls Tryz.prog 18 #[.slice (some ad) p.length cp, .slice B (intR p hi).length c] W fun e w' => ListPost (kR p (intR p hi)) e w' ∧ Below W.heap.size W w') at F5
    clear hlo hhi h1 h3 h4 e3
    generalize kR p (intR p hi) = M4 at *
    generalize oddR p lo = M1 at *
    generalize oddR p hi = M2 at *
    generalize intR p hi = M3 at *
    go_wp2_with fail
    rw [← HLO.out, ← HHI.out]
    refine (F1.out w2 HS2.out HP2.out).mono ?_
    rintro e w3 ⟨⟨A3, c3, rfl, hr3⟩, hb3⟩
    have HR3 := Lib.hid hr3
    have HB3 := Lib.hid hb3
    clear hr3 hb3
    go_wp2_with fail
    refine (F2.out w3 (HS2.out.below HB3.out (Nat.le_refl _)) (HP2.out.lift HB3.out)).mono ?_
    rintro e w4 ⟨⟨A4, c4, rfl, hr4⟩, hb4⟩
    replace HR3 := Lib.hid (HR3.out.lift hb4)
    have HR4 := Lib.hid hr4
    replace HB3 := Lib.hid (HB3.out.trans (hb4.mono HB3.out.size))
    clear hr4 hb4
    go_wp2_with fail
    refine (F3.out A4 c4 w4 (HS2.out.below HB3.out (Nat.le_refl _)) (HP2.out.lift HB3.out) HR4.out).mono ?_
    rintro e w5 ⟨⟨A5, c5, rfl, hr5⟩, hb5⟩
    replace HR3 := Lib.hid (HR3.out.lift hb5)
    replace HR4 := Lib.hid (HR4.out.lift hb5)
    have HR5 := Lib.hid hr5
    replace HB3 := Lib.hid (HB3.out.trans (hb5.mono HB3.out.size))
    clear hr5 hb5
    go_wp2_with fail
    refine (F4.out w5 (HS2.out.below HB3.out (Nat.le_refl _)) (HP2.out.lift HB3.out)).mono ?_
    rintro e w6 ⟨⟨A6, c6, rfl, hr6⟩, hb6⟩
    replace HR3 := Lib.hid (HR3.out.lift hb6)
    replace HR4 := Lib.hid (HR4.out.lift hb6)
    replace HR5 := Lib.hid (HR5.out.lift hb6)
    have HR6 := Lib.hid hr6
    replace HB3 := Lib.hid (HB3.out.trans (hb6.mono HB3.out.size))
    clear hr6 hb6
    have S1 := Lib.hid (same_any29 A5 A4 c5 c4 M2 M2 w6 HR5.out HR4.out (by omega))
    rw [rowsSame_refl] at S1
    have S2 := Lib.hid (fun W (hb : Below w6.heap.size w6 W) => within_any29 A3 A4 c3 c4 M1 M2 W (HR3.out.lift hb) (HR4.out.lift hb) (by omega) (by omega))
    rw [HW1.out] at S2
    go_wp2_with fail
    refine S1.out.mono ?_
    rintro e w7 ⟨rfl, hb7⟩
    go_wp2_with fail
    refine (S2.out w7 hb7).mono ?_
    rintro e w8 ⟨rfl, hb8⟩
    have hb8' := hb7.trans (hb8.mono hb7.size)
    replace HR4 := Lib.hid (HR4.out.lift hb8')
    replace HR6 := Lib.hid (HR6.out.lift hb8')
    replace HB3 := Lib.hid (HB3.out.trans (hb8'.mono HB3.out.size))
    clear hb7 hb8 hb8' HR3 HR5 S1 S2 F1 F2 F3 F4
    go_wp2_with fail
    refine (F5.out A6 c6 w8 (HS2.out.below HB3.out (Nat.le_refl _)) (HP2.out.lift HB3.out) HR6.out).mono ?_
    rintro e w9 ⟨⟨A9, c9, rfl, hr9⟩, hb9⟩
    have S3 := Lib.hid (within_any29 A9 A4 c9 c4 M4 M2 w9 hr9 (HR4.out.lift hb9) (by omega) (by omega))
    rw [HW2.out] at S3
    replace HB3 := Lib.hid (HB3.out.trans (hb9.mono HB3.out.size))
    clear hr9 hb9
    go_wp2_with fail
    refine S3.out.mono ?_
    rintro e w10 ⟨rfl, hb10⟩
    have hbz := HB2.out.trans ((HB3.out.trans (hb10.mono HB3.out.size)).mono HB2.out.size)
    go_wp2_with fail
    go_ret
    exact ⟨rfl, hbz⟩
  · have hne : ((p[0]?.getD 0 : Int) != 2) = true := by simpa using h2
    clear h2
    generalize p[0]?.getD 0 = z at *
    go_wp2_with fail
    refine (HK.out w2 HS2.out).mono ?_
    rintro e w3 ⟨rfl, hb3⟩
    go_wp2_with fail
    go_ret
    exact ⟨rfl, HB2.out.trans (hb3.mono HB2.out.size)⟩

end Go.Proofs.YtcfkclafpbaagaaGreatDoor
