/- MonzoReads: the walk. -/
import Derived.Test.YtagfnnongamneaaGreatDoorReadsG
namespace Go.Proofs.YtagfnnongamneaaGreatDoor
open Go.RowKit Go.Lib

theorem sameB_refl (x : List Int) : sameB x x = true := by unfold sameB; simp

set_option maxRecDepth 100000 in
set_option maxHeartbeats 4000000 in
theorem reads_brack (n0 : Nat) (s1 : List UInt8) (w : World) (hS : Std w) (hLI : LenIs w) (hn : n0 ≤ 255) (hs : s1.length ≤ 40) (h0 : 0 < s1.length) (hc : s1[0]?.getD 0 = 91) :
    Calls Tryz.prog 10 #[.int .u8 n0, .string ⟨s1.toArray⟩] w fun e w' => e = .returned (.bool true) ∧ Below w.heap.size w w' := by
  have HS := Lib.hid hS
  have HLI := Lib.hid hLI
  have HM : Hid (∀ W, Calls Tryz.prog 36 #[.int .u8 n0] W fun e w' => (∃ A c, e = .returned (.slice A (primesOf n0).length c) ∧ IsRow w' w'.heap.size (.slice A (primesOf n0).length c) (primesOf n0)) ∧ Below W.heap.size W w') := Lib.hid (fun W => primes_any n0 W hn)
  have HK := Lib.hid (fun W hW => known_any W hW)
  have hpf : Lib.hasPrefix s1 [91] = true := by rw [head_brack h0, hc]; rfl
  have HPA := Lib.hid (fun pv W h1 h2 h3 => mParse_brack pv (primesOf n0) s1 W h1 h2 h3 (primesOf_ok n0).1 hs hpf)
  have HR := Lib.hid (fun W h1 h2 => rowParse_any s1 W h1 h2 (by omega))
  have HNZ : Box (∀ e, rowRead s1 = .bad e → e ≠ 0) := ⟨fun e h => rowRead_bad h⟩
  have HC := Lib.hid (fun pv xv x W h1 h2 => lawCheck_any pv xv (primesOf n0) x W h1 h2)
  have hx0 := ba_at s1 0
  rw [hc] at hx0
  have hli : (s1.length : Int) ≤ 40 := by omega
  have h0i : (0 : Int) < (s1.length : Int) := by omega
  have hp4 := (primesOf_ok n0).2
  have hbw := Below.refl w.heap.size w
  clear hS hLI hpf hc
  generalize primesOf n0 = p at *
  generalize rowRead s1 = rr at *
  cases rr with
  | bad er =>
    have her : (er != 0) = true := by have := HNZ.out er rfl; simpa using this
    have her2 : (er == 0) = false := by have := HNZ.out er rfl; simpa using this
    clear HNZ HC
    go_enter Tryz.func10, Tryz.ntmps10
    go_wp2_with fail
    refine (HK.out _ HS.out).mono ?_
    rintro e wk1 ⟨rfl, hbk⟩
    replace HS := Lib.hid (HS.out.below hbk (Nat.le_refl _))
    replace hbw := hbw.trans (hbk.mono hbw.size)
    clear hbk
    go_wp2_with fail
    refine (HM.out _).mono ?_
    rintro e wk2 ⟨⟨AP, cp, rfl, hp⟩, hbk⟩
    replace HS := Lib.hid (HS.out.below hbk (Nat.le_refl _))
    replace hbw := hbw.trans (hbk.mono hbw.size)
    have HP := Lib.hid hp
    clear hp hbk HM HK
    go_wp2_with fail
    refine (HPA.out _ _ HS.out (HLI.out.below hbw) HP.out).mono ?_
    rintro e wk3 ⟨rfl, hbk⟩
    replace HP := Lib.hid (HP.out.lift hbk)
    replace HS := Lib.hid (HS.out.below hbk (Nat.le_refl _))
    replace hbw := hbw.trans (hbk.mono hbw.size)
    clear hbk
    go_wp2_with fail
    refine (HR.out _ HS.out (HLI.out.below hbw)).mono ?_
    rintro e wk4 ⟨rfl, hbk⟩
    replace HP := Lib.hid (HP.out.lift hbk)
    replace HS := Lib.hid (HS.out.below hbk (Nat.le_refl _))
    replace hbw := hbw.trans (hbk.mono hbw.size)
    clear hbk
    go_wp2_with fail
    go_ret
    exact ⟨rfl, hbw⟩
  | good x kt =>
  clear HNZ
  cases kt with
  | false =>
    clear HC
    go_enter Tryz.func10, Tryz.ntmps10
    go_wp2_with fail
    refine (HK.out _ HS.out).mono ?_
    rintro e wk5 ⟨rfl, hbk⟩
    replace HS := Lib.hid (HS.out.below hbk (Nat.le_refl _))
    replace hbw := hbw.trans (hbk.mono hbw.size)
    clear hbk
    go_wp2_with fail
    refine (HM.out _).mono ?_
    rintro e wk6 ⟨⟨AP, cp, rfl, hp⟩, hbk⟩
    replace HS := Lib.hid (HS.out.below hbk (Nat.le_refl _))
    replace hbw := hbw.trans (hbk.mono hbw.size)
    have HP := Lib.hid hp
    clear hp hbk HM HK
    go_wp2_with fail
    refine (HPA.out _ _ HS.out (HLI.out.below hbw) HP.out).mono ?_
    rintro e wk7 ⟨rfl, hbk⟩
    replace HP := Lib.hid (HP.out.lift hbk)
    replace HS := Lib.hid (HS.out.below hbk (Nat.le_refl _))
    replace hbw := hbw.trans (hbk.mono hbw.size)
    clear hbk
    go_wp2_with fail
    refine (HR.out _ HS.out (HLI.out.below hbw)).mono ?_
    rintro e wk8 ⟨⟨AY, cy, rfl, htr⟩, hbk⟩
    replace HP := Lib.hid (HP.out.lift hbk)
    replace HS := Lib.hid (HS.out.below hbk (Nat.le_refl _))
    replace hbw := hbw.trans (hbk.mono hbw.size)
    have HY := Lib.hid htr.isRow
    clear htr hbk
    go_wp2_with fail
    go_ret
    exact ⟨rfl, hbw⟩
  | true =>
  replace HC := Lib.hid (fun pv xv W h1 h2 => HC.out pv xv x W h1 h2)
  have HE : Box (rowRes p (.good x true) = if chkAll p [x] = 0 then .row x else .err (chkAll p [x])) := ⟨rfl⟩
  rw [HE.out] at HPA
  generalize chkAll p [x] = ck at *
  clear HE
  by_cases hk0 : ck = 0
  · rw [if_pos hk0] at HPA
    subst hk0
    have HSM := Lib.hid (fun xv yv W h1 h2 => same_any xv yv x x W h1 h2)
    rw [sameB_refl] at HSM
    go_enter Tryz.func10, Tryz.ntmps10
    go_wp2_with fail
    refine (HK.out _ HS.out).mono ?_
    rintro e wk9 ⟨rfl, hbk⟩
    replace HS := Lib.hid (HS.out.below hbk (Nat.le_refl _))
    replace hbw := hbw.trans (hbk.mono hbw.size)
    clear hbk
    go_wp2_with fail
    refine (HM.out _).mono ?_
    rintro e wk10 ⟨⟨AP, cp, rfl, hp⟩, hbk⟩
    replace HS := Lib.hid (HS.out.below hbk (Nat.le_refl _))
    replace hbw := hbw.trans (hbk.mono hbw.size)
    have HP := Lib.hid hp
    clear hp hbk HM HK
    go_wp2_with fail
    refine (HPA.out _ _ HS.out (HLI.out.below hbw) HP.out).mono ?_
    rintro e wk11 ⟨⟨AX, cx, rfl, hx⟩, hbk⟩
    replace HP := Lib.hid (HP.out.lift hbk)
    replace HS := Lib.hid (HS.out.below hbk (Nat.le_refl _))
    replace hbw := hbw.trans (hbk.mono hbw.size)
    have HX := Lib.hid hx
    clear hx hbk
    go_wp2_with fail
    refine (HR.out _ HS.out (HLI.out.below hbw)).mono ?_
    rintro e wk12 ⟨⟨AY, cy, rfl, htr⟩, hbk⟩
    replace HP := Lib.hid (HP.out.lift hbk)
    replace HX := Lib.hid (HX.out.lift hbk)
    replace HS := Lib.hid (HS.out.below hbk (Nat.le_refl _))
    replace hbw := hbw.trans (hbk.mono hbw.size)
    have HY := Lib.hid htr.isRow
    clear htr hbk
    go_wp2_with fail
    refine (HC.out _ _ _ HP.out HY.out).mono ?_
    rintro e wc ⟨rfl, rfl⟩
    go_wp2_with fail
    refine (HSM.out _ _ _ HX.out HY.out).mono ?_
    rintro e wk13 ⟨rfl, hbk⟩
    replace HP := Lib.hid (HP.out.lift hbk)
    replace HX := Lib.hid (HX.out.lift hbk)
    replace HY := Lib.hid (HY.out.lift hbk)
    replace HS := Lib.hid (HS.out.below hbk (Nat.le_refl _))
    replace hbw := hbw.trans (hbk.mono hbw.size)
    clear hbk
    go_wp2_with fail
    go_ret
    exact ⟨rfl, hbw⟩
  · rw [if_neg hk0] at HPA
    have hne : (ck != 0) = true := by simpa using hk0
    clear hk0
    go_enter Tryz.func10, Tryz.ntmps10
    go_wp2_with fail
    refine (HK.out _ HS.out).mono ?_
    rintro e wk14 ⟨rfl, hbk⟩
    replace HS := Lib.hid (HS.out.below hbk (Nat.le_refl _))
    replace hbw := hbw.trans (hbk.mono hbw.size)
    clear hbk
    go_wp2_with fail
    refine (HM.out _).mono ?_
    rintro e wk15 ⟨⟨AP, cp, rfl, hp⟩, hbk⟩
    replace HS := Lib.hid (HS.out.below hbk (Nat.le_refl _))
    replace hbw := hbw.trans (hbk.mono hbw.size)
    have HP := Lib.hid hp
    clear hp hbk HM HK
    go_wp2_with fail
    refine (HPA.out _ _ HS.out (HLI.out.below hbw) HP.out).mono ?_
    rintro e wk16 ⟨rfl, hbk⟩
    replace HP := Lib.hid (HP.out.lift hbk)
    replace HS := Lib.hid (HS.out.below hbk (Nat.le_refl _))
    replace hbw := hbw.trans (hbk.mono hbw.size)
    clear hbk
    go_wp2_with fail
    refine (HR.out _ HS.out (HLI.out.below hbw)).mono ?_
    rintro e wk17 ⟨⟨AY, cy, rfl, htr⟩, hbk⟩
    replace HP := Lib.hid (HP.out.lift hbk)
    replace HS := Lib.hid (HS.out.below hbk (Nat.le_refl _))
    replace hbw := hbw.trans (hbk.mono hbw.size)
    have HY := Lib.hid htr.isRow
    clear htr hbk
    go_wp2_with fail
    refine (HC.out _ _ _ HP.out HY.out).mono ?_
    rintro e wc ⟨rfl, rfl⟩
    go_wp2_with fail
    go_ret
    exact ⟨rfl, hbw⟩

set_option maxRecDepth 100000 in
set_option maxHeartbeats 4000000 in
theorem reads_frac (n0 : Nat) (s1 : List UInt8) (w : World) (hS : Std w) (hLI : LenIs w) (hn : n0 ≤ 255) (hs : s1.length ≤ 40) (hpf : Lib.hasPrefix s1 [91] = false) (hq : s1.length = 0 ∨ (0 < s1.length ∧ s1[0]?.getD 0 ≠ 91)) :
    Calls Tryz.prog 10 #[.int .u8 n0, .string ⟨s1.toArray⟩] w fun e w' => e = .returned (.bool true) ∧ Below w.heap.size w w' := by
  have HS := Lib.hid hS
  have HLI := Lib.hid hLI
  have HM : Hid (∀ W, Calls Tryz.prog 36 #[.int .u8 n0] W fun e w' => (∃ A c, e = .returned (.slice A (primesOf n0).length c) ∧ IsRow w' w'.heap.size (.slice A (primesOf n0).length c) (primesOf n0)) ∧ Below W.heap.size W w') := Lib.hid (fun W => primes_any n0 W hn)
  have HK := Lib.hid (fun W hW => known_any W hW)
  have HPA := Lib.hid (fun pv W h1 (_ : LenIs W) h3 => mParse_frac pv (primesOf n0) s1 W h1 h3 (primesOf_ok n0).1 hs hpf (Lib.hid (frac_of (primesOf n0) pv s1 (primesOf_ok n0).1 hs)))
  have HO := Lib.hid (fun pv n d h W h1 h2 => frac_of (primesOf n0) pv s1 (primesOf_ok n0).1 hs n d h W h1 h2)
  have HF := Lib.hid (fun W hW => fParse_all s1 W hW (by omega))
  have HNZ : Box (∀ e, fracOf s1 = .bad e → e ≠ 0) := ⟨fun e h => fracOf_bad h⟩
  have hx0 := ba_at s1 0
  have hli : (s1.length : Int) ≤ 40 := by omega
  have hp4 := (primesOf_ok n0).2
  have hbw := Below.refl w.heap.size w
  have HQ : Box (s1.length = 0 ∨ (0 < s1.length ∧ ((((s1[0]?.getD 0).toNat : Int) == 91) = false))) := ⟨by
    rcases hq with h | ⟨h1, h2⟩
    · exact .inl h
    · refine .inr ⟨h1, ?_⟩
      rw [beq_eq_false_iff_ne]
      intro hh
      exact h2 (UInt8.toNat_inj.1 (by show (s1[0]?.getD 0).toNat = 91; omega))⟩
  clear hS hLI hpf hq
  generalize s1[0]?.getD 0 = c at *
  generalize primesOf n0 = p at *
  generalize isNeg s1 = b at *
  generalize fracOf s1 = fr at *
  cases fr with
  | bad er =>
    rw [frdOut_bad] at HF
    have her : (er != 0) = true := by have := HNZ.out er rfl; simpa using this
    clear HNZ HO
    rcases HQ.out with h0 | ⟨h0, h91⟩
    · have h0i : (s1.length : Int) = 0 := by omega
      clear h0 HQ
      go_enter Tryz.func10, Tryz.ntmps10
      go_wp2_with fail
      refine (HK.out _ HS.out).mono ?_
      rintro e wk18 ⟨rfl, hbk⟩
      replace HS := Lib.hid (HS.out.below hbk (Nat.le_refl _))
      replace hbw := hbw.trans (hbk.mono hbw.size)
      clear hbk
      go_wp2_with fail
      refine (HM.out _).mono ?_
      rintro e wk19 ⟨⟨AP, cp, rfl, hp⟩, hbk⟩
      replace HS := Lib.hid (HS.out.below hbk (Nat.le_refl _))
      replace hbw := hbw.trans (hbk.mono hbw.size)
      have HP := Lib.hid hp
      clear hp hbk HM HK
      go_wp2_with fail
      refine (HPA.out _ _ HS.out (HLI.out.below hbw) HP.out).mono ?_
      rintro e wk20 ⟨rfl, hbk⟩
      replace HP := Lib.hid (HP.out.lift hbk)
      replace HS := Lib.hid (HS.out.below hbk (Nat.le_refl _))
      replace hbw := hbw.trans (hbk.mono hbw.size)
      clear hbk
      go_wp2_with fail
      refine (HF.out _ HS.out).mono ?_
      rintro e wk21 ⟨rfl, hbk⟩
      replace HP := Lib.hid (HP.out.lift hbk)
      replace HS := Lib.hid (HS.out.below hbk (Nat.le_refl _))
      replace hbw := hbw.trans (hbk.mono hbw.size)
      clear hbk
      go_wp2_with fail
      go_ret
      exact ⟨rfl, hbw.alloc hbw.size _⟩
    · have h0i : (0 : Int) < (s1.length : Int) := by omega
      clear h0 HQ
      go_enter Tryz.func10, Tryz.ntmps10
      go_wp2_with fail
      refine (HK.out _ HS.out).mono ?_
      rintro e wk22 ⟨rfl, hbk⟩
      replace HS := Lib.hid (HS.out.below hbk (Nat.le_refl _))
      replace hbw := hbw.trans (hbk.mono hbw.size)
      clear hbk
      go_wp2_with fail
      refine (HM.out _).mono ?_
      rintro e wk23 ⟨⟨AP, cp, rfl, hp⟩, hbk⟩
      replace HS := Lib.hid (HS.out.below hbk (Nat.le_refl _))
      replace hbw := hbw.trans (hbk.mono hbw.size)
      have HP := Lib.hid hp
      clear hp hbk HM HK
      go_wp2_with fail
      refine (HPA.out _ _ HS.out (HLI.out.below hbw) HP.out).mono ?_
      rintro e wk24 ⟨rfl, hbk⟩
      replace HP := Lib.hid (HP.out.lift hbk)
      replace HS := Lib.hid (HS.out.below hbk (Nat.le_refl _))
      replace hbw := hbw.trans (hbk.mono hbw.size)
      clear hbk
      go_wp2_with fail
      refine (HF.out _ HS.out).mono ?_
      rintro e wk25 ⟨rfl, hbk⟩
      replace HP := Lib.hid (HP.out.lift hbk)
      replace HS := Lib.hid (HS.out.below hbk (Nat.le_refl _))
      replace hbw := hbw.trans (hbk.mono hbw.size)
      clear hbk
      go_wp2_with fail
      go_ret
      exact ⟨rfl, hbw.alloc hbw.size _⟩
  | good n d =>
  rw [frdOut_good] at HF
  replace HO := Lib.hid (fun pv W h1 h2 => HO.out pv n d rfl W h1 h2)
  clear HNZ
  rw [fracRes_good] at HPA
  generalize ofRes p (lowN (sgnd b n) d) (lowD (sgnd b n) d) = oR at *
  generalize itoa (lowN (sgnd b n) d) = la at *
  generalize itoa (lowD (sgnd b n) d) = lb at *
  cases oR with
  | err er =>
    have HSM := Lib.hid (fun xv yv W h1 h2 => same_any xv yv [] [] W h1 h2)
    rw [sameB_refl] at HSM
    rcases HQ.out with h0 | ⟨h0, h91⟩
    · have h0i : (s1.length : Int) = 0 := by omega
      clear h0 HQ
      go_enter Tryz.func10, Tryz.ntmps10
      go_wp2_with fail
      refine (HK.out _ HS.out).mono ?_
      rintro e wk26 ⟨rfl, hbk⟩
      replace HS := Lib.hid (HS.out.below hbk (Nat.le_refl _))
      replace hbw := hbw.trans (hbk.mono hbw.size)
      clear hbk
      go_wp2_with fail
      refine (HM.out _).mono ?_
      rintro e wk27 ⟨⟨AP, cp, rfl, hp⟩, hbk⟩
      replace HS := Lib.hid (HS.out.below hbk (Nat.le_refl _))
      replace hbw := hbw.trans (hbk.mono hbw.size)
      have HP := Lib.hid hp
      clear hp hbk HM HK
      go_wp2_with fail
      refine (HPA.out _ _ HS.out (HLI.out.below hbw) HP.out).mono ?_
      rintro e wk28 ⟨rfl, hbk⟩
      replace HP := Lib.hid (HP.out.lift hbk)
      replace HS := Lib.hid (HS.out.below hbk (Nat.le_refl _))
      replace hbw := hbw.trans (hbk.mono hbw.size)
      clear hbk
      go_wp2_with fail
      refine (HF.out _ HS.out).mono ?_
      rintro e wk29 ⟨rfl, hbk⟩
      replace HP := Lib.hid (HP.out.lift hbk)
      replace HS := Lib.hid (HS.out.below hbk (Nat.le_refl _))
      replace hbw := hbw.trans (hbk.mono hbw.size)
      clear hbk
      go_wp2_with fail
      have hbk : Below wk29.heap.size wk29 (wk29.alloc (.cells #[.string ⟨la.toArray⟩, .string ⟨lb.toArray⟩] 39)) := (Below.refl _ _).alloc (Nat.le_refl _) _
      generalize hWQ : wk29.alloc (.cells #[.string ⟨la.toArray⟩, .string ⟨lb.toArray⟩] 39) = WQ at *
      clear hWQ
      replace HP := Lib.hid (HP.out.lift hbk)
      replace HS := Lib.hid (HS.out.below hbk (Nat.le_refl _))
      replace hbw := hbw.trans (hbk.mono hbw.size)
      clear hbk
      refine (HO.out _ _ HS.out HP.out).mono ?_
      rintro e w6 ⟨rfl, hbk⟩
      replace HP := Lib.hid (HP.out.lift hbk)
      replace HS := Lib.hid (HS.out.below hbk (Nat.le_refl _))
      replace hbw := hbw.trans (hbk.mono hbw.size)
      clear hbk
      go_wp2_with fail
      refine (HSM.out _ _ _ (nil_row _) (nil_row _)).mono ?_
      rintro e wk30 ⟨rfl, hbk⟩
      replace HP := Lib.hid (HP.out.lift hbk)
      replace HS := Lib.hid (HS.out.below hbk (Nat.le_refl _))
      replace hbw := hbw.trans (hbk.mono hbw.size)
      clear hbk
      go_wp2_with fail
      go_ret
      exact ⟨rfl, hbw⟩
    · have h0i : (0 : Int) < (s1.length : Int) := by omega
      clear h0 HQ
      go_enter Tryz.func10, Tryz.ntmps10
      go_wp2_with fail
      refine (HK.out _ HS.out).mono ?_
      rintro e wk31 ⟨rfl, hbk⟩
      replace HS := Lib.hid (HS.out.below hbk (Nat.le_refl _))
      replace hbw := hbw.trans (hbk.mono hbw.size)
      clear hbk
      go_wp2_with fail
      refine (HM.out _).mono ?_
      rintro e wk32 ⟨⟨AP, cp, rfl, hp⟩, hbk⟩
      replace HS := Lib.hid (HS.out.below hbk (Nat.le_refl _))
      replace hbw := hbw.trans (hbk.mono hbw.size)
      have HP := Lib.hid hp
      clear hp hbk HM HK
      go_wp2_with fail
      refine (HPA.out _ _ HS.out (HLI.out.below hbw) HP.out).mono ?_
      rintro e wk33 ⟨rfl, hbk⟩
      replace HP := Lib.hid (HP.out.lift hbk)
      replace HS := Lib.hid (HS.out.below hbk (Nat.le_refl _))
      replace hbw := hbw.trans (hbk.mono hbw.size)
      clear hbk
      go_wp2_with fail
      refine (HF.out _ HS.out).mono ?_
      rintro e wk34 ⟨rfl, hbk⟩
      replace HP := Lib.hid (HP.out.lift hbk)
      replace HS := Lib.hid (HS.out.below hbk (Nat.le_refl _))
      replace hbw := hbw.trans (hbk.mono hbw.size)
      clear hbk
      go_wp2_with fail
      have hbk : Below wk34.heap.size wk34 (wk34.alloc (.cells #[.string ⟨la.toArray⟩, .string ⟨lb.toArray⟩] 39)) := (Below.refl _ _).alloc (Nat.le_refl _) _
      generalize hWQ : wk34.alloc (.cells #[.string ⟨la.toArray⟩, .string ⟨lb.toArray⟩] 39) = WQ at *
      clear hWQ
      replace HP := Lib.hid (HP.out.lift hbk)
      replace HS := Lib.hid (HS.out.below hbk (Nat.le_refl _))
      replace hbw := hbw.trans (hbk.mono hbw.size)
      clear hbk
      refine (HO.out _ _ HS.out HP.out).mono ?_
      rintro e w6 ⟨rfl, hbk⟩
      replace HP := Lib.hid (HP.out.lift hbk)
      replace HS := Lib.hid (HS.out.below hbk (Nat.le_refl _))
      replace hbw := hbw.trans (hbk.mono hbw.size)
      clear hbk
      go_wp2_with fail
      refine (HSM.out _ _ _ (nil_row _) (nil_row _)).mono ?_
      rintro e wk35 ⟨rfl, hbk⟩
      replace HP := Lib.hid (HP.out.lift hbk)
      replace HS := Lib.hid (HS.out.below hbk (Nat.le_refl _))
      replace hbw := hbw.trans (hbk.mono hbw.size)
      clear hbk
      go_wp2_with fail
      go_ret
      exact ⟨rfl, hbw⟩
  | row x =>
    have HSM := Lib.hid (fun xv yv W h1 h2 => same_any xv yv x x W h1 h2)
    rw [sameB_refl] at HSM
    rcases HQ.out with h0 | ⟨h0, h91⟩
    · have h0i : (s1.length : Int) = 0 := by omega
      clear h0 HQ
      go_enter Tryz.func10, Tryz.ntmps10
      go_wp2_with fail
      refine (HK.out _ HS.out).mono ?_
      rintro e wk36 ⟨rfl, hbk⟩
      replace HS := Lib.hid (HS.out.below hbk (Nat.le_refl _))
      replace hbw := hbw.trans (hbk.mono hbw.size)
      clear hbk
      go_wp2_with fail
      refine (HM.out _).mono ?_
      rintro e wk37 ⟨⟨AP, cp, rfl, hp⟩, hbk⟩
      replace HS := Lib.hid (HS.out.below hbk (Nat.le_refl _))
      replace hbw := hbw.trans (hbk.mono hbw.size)
      have HP := Lib.hid hp
      clear hp hbk HM HK
      go_wp2_with fail
      refine (HPA.out _ _ HS.out (HLI.out.below hbw) HP.out).mono ?_
      rintro e wk38 ⟨⟨AX, cx, rfl, hx⟩, hbk⟩
      replace HP := Lib.hid (HP.out.lift hbk)
      replace HS := Lib.hid (HS.out.below hbk (Nat.le_refl _))
      replace hbw := hbw.trans (hbk.mono hbw.size)
      have HX := Lib.hid hx
      clear hx hbk
      go_wp2_with fail
      refine (HF.out _ HS.out).mono ?_
      rintro e wk39 ⟨rfl, hbk⟩
      replace HP := Lib.hid (HP.out.lift hbk)
      replace HX := Lib.hid (HX.out.lift hbk)
      replace HS := Lib.hid (HS.out.below hbk (Nat.le_refl _))
      replace hbw := hbw.trans (hbk.mono hbw.size)
      clear hbk
      go_wp2_with fail
      have hbk : Below wk39.heap.size wk39 (wk39.alloc (.cells #[.string ⟨la.toArray⟩, .string ⟨lb.toArray⟩] 39)) := (Below.refl _ _).alloc (Nat.le_refl _) _
      generalize hWQ : wk39.alloc (.cells #[.string ⟨la.toArray⟩, .string ⟨lb.toArray⟩] 39) = WQ at *
      clear hWQ
      replace HP := Lib.hid (HP.out.lift hbk)
      replace HX := Lib.hid (HX.out.lift hbk)
      replace HS := Lib.hid (HS.out.below hbk (Nat.le_refl _))
      replace hbw := hbw.trans (hbk.mono hbw.size)
      clear hbk
      refine (HO.out _ _ HS.out HP.out).mono ?_
      rintro e w6 ⟨⟨AY, cy, rfl, hy⟩, hbk⟩
      replace HP := Lib.hid (HP.out.lift hbk)
      replace HX := Lib.hid (HX.out.lift hbk)
      replace HS := Lib.hid (HS.out.below hbk (Nat.le_refl _))
      replace hbw := hbw.trans (hbk.mono hbw.size)
      have HY := Lib.hid hy
      clear hy hbk
      go_wp2_with fail
      refine (HSM.out _ _ _ HX.out HY.out).mono ?_
      rintro e wk40 ⟨rfl, hbk⟩
      replace HP := Lib.hid (HP.out.lift hbk)
      replace HX := Lib.hid (HX.out.lift hbk)
      replace HY := Lib.hid (HY.out.lift hbk)
      replace HS := Lib.hid (HS.out.below hbk (Nat.le_refl _))
      replace hbw := hbw.trans (hbk.mono hbw.size)
      clear hbk
      go_wp2_with fail
      go_ret
      exact ⟨rfl, hbw⟩
    · have h0i : (0 : Int) < (s1.length : Int) := by omega
      clear h0 HQ
      go_enter Tryz.func10, Tryz.ntmps10
      go_wp2_with fail
      refine (HK.out _ HS.out).mono ?_
      rintro e wk41 ⟨rfl, hbk⟩
      replace HS := Lib.hid (HS.out.below hbk (Nat.le_refl _))
      replace hbw := hbw.trans (hbk.mono hbw.size)
      clear hbk
      go_wp2_with fail
      refine (HM.out _).mono ?_
      rintro e wk42 ⟨⟨AP, cp, rfl, hp⟩, hbk⟩
      replace HS := Lib.hid (HS.out.below hbk (Nat.le_refl _))
      replace hbw := hbw.trans (hbk.mono hbw.size)
      have HP := Lib.hid hp
      clear hp hbk HM HK
      go_wp2_with fail
      refine (HPA.out _ _ HS.out (HLI.out.below hbw) HP.out).mono ?_
      rintro e wk43 ⟨⟨AX, cx, rfl, hx⟩, hbk⟩
      replace HP := Lib.hid (HP.out.lift hbk)
      replace HS := Lib.hid (HS.out.below hbk (Nat.le_refl _))
      replace hbw := hbw.trans (hbk.mono hbw.size)
      have HX := Lib.hid hx
      clear hx hbk
      go_wp2_with fail
      refine (HF.out _ HS.out).mono ?_
      rintro e wk44 ⟨rfl, hbk⟩
      replace HP := Lib.hid (HP.out.lift hbk)
      replace HX := Lib.hid (HX.out.lift hbk)
      replace HS := Lib.hid (HS.out.below hbk (Nat.le_refl _))
      replace hbw := hbw.trans (hbk.mono hbw.size)
      clear hbk
      go_wp2_with fail
      have hbk : Below wk44.heap.size wk44 (wk44.alloc (.cells #[.string ⟨la.toArray⟩, .string ⟨lb.toArray⟩] 39)) := (Below.refl _ _).alloc (Nat.le_refl _) _
      generalize hWQ : wk44.alloc (.cells #[.string ⟨la.toArray⟩, .string ⟨lb.toArray⟩] 39) = WQ at *
      clear hWQ
      replace HP := Lib.hid (HP.out.lift hbk)
      replace HX := Lib.hid (HX.out.lift hbk)
      replace HS := Lib.hid (HS.out.below hbk (Nat.le_refl _))
      replace hbw := hbw.trans (hbk.mono hbw.size)
      clear hbk
      refine (HO.out _ _ HS.out HP.out).mono ?_
      rintro e w6 ⟨⟨AY, cy, rfl, hy⟩, hbk⟩
      replace HP := Lib.hid (HP.out.lift hbk)
      replace HX := Lib.hid (HX.out.lift hbk)
      replace HS := Lib.hid (HS.out.below hbk (Nat.le_refl _))
      replace hbw := hbw.trans (hbk.mono hbw.size)
      have HY := Lib.hid hy
      clear hy hbk
      go_wp2_with fail
      refine (HSM.out _ _ _ HX.out HY.out).mono ?_
      rintro e wk45 ⟨rfl, hbk⟩
      replace HP := Lib.hid (HP.out.lift hbk)
      replace HX := Lib.hid (HX.out.lift hbk)
      replace HY := Lib.hid (HY.out.lift hbk)
      replace HS := Lib.hid (HS.out.below hbk (Nat.le_refl _))
      replace hbw := hbw.trans (hbk.mono hbw.size)
      clear hbk
      go_wp2_with fail
      go_ret
      exact ⟨rfl, hbw⟩

set_option maxRecDepth 100000 in
theorem reads_far (n0 : Nat) (s1 : List UInt8) (w : World) (hS : Std w) (hs : 40 < s1.length) (hm : s1.length ≤ maxLen) :
    Calls Tryz.prog 10 #[.int .u8 n0, .string ⟨s1.toArray⟩] w fun e w' => e = .returned (.bool true) ∧ Below w.heap.size w w' := by
  have HS := Lib.hid hS
  have HK := Lib.hid (fun W hW => known_any W hW)
  have hli : (40 : Int) < (s1.length : Int) := by omega
  have hsm : (s1.length : Int) ≤ 9223372036854775807 := by unfold maxLen at hm; omega
  have hbw := Below.refl w.heap.size w
  clear hS hs hm
  go_enter Tryz.func10, Tryz.ntmps10
  go_wp2_with fail
  refine (HK.out _ HS.out).mono ?_
  rintro e wk46 ⟨rfl, hbk⟩
  replace HS := Lib.hid (HS.out.below hbk (Nat.le_refl _))
  replace hbw := hbw.trans (hbk.mono hbw.size)
  clear hbk
  go_wp2_with fail
  refine (HK.out _ HS.out).mono ?_
  rintro e wk47 ⟨rfl, hbk⟩
  replace HS := Lib.hid (HS.out.below hbk (Nat.le_refl _))
  replace hbw := hbw.trans (hbk.mono hbw.size)
  clear hbk
  go_wp2_with fail
  go_ret
  exact ⟨rfl, hbw⟩

theorem reads_walk (n0 : Nat) (s1 : List UInt8) (w : World) (hS : Std w) (hLI : LenIs w) (hn : n0 ≤ 255) (hs : s1.length ≤ maxLen) :
    Calls Tryz.prog 10 #[.int .u8 n0, .string ⟨s1.toArray⟩] w fun e w' => e = .returned (.bool true) ∧ Below w.heap.size w w' := by
  by_cases h40 : 40 < s1.length
  · exact reads_far n0 s1 w hS h40 hs
  · rcases Nat.eq_zero_or_pos s1.length with h0 | h0
    · have : s1 = [] := List.eq_nil_of_length_eq_zero h0
      subst this
      exact reads_frac n0 [] w hS hLI hn (by omega) rfl (.inl rfl)
    · by_cases hc : s1[0]?.getD 0 = 91
      · exact reads_brack n0 s1 w hS hLI hn (by omega) h0 hc
      · exact reads_frac n0 s1 w hS hLI hn (by omega) (by rw [head_brack h0, decide_eq_false hc]) (.inr ⟨h0, hc⟩)

end Go.Proofs.YtagfnnongamneaaGreatDoor
