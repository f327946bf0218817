/- LexerLimits: the walk. -/
import Derived.Test.YtagfnnongamneaaGreatDoorGN
import Derived.Test.YtagfnnongamneaaGreatDoorLim0G
namespace Go.Proofs.YtagfnnongamneaaGreatDoor
open Go.RowKit Go.Lib

/-- What Scan answers, as numbers: the error, and the place. -/
def ScanNum (a b c : Int) (e : Ending) : Prop := ∃ A n cc, e = .returned (.tuple #[.slice A n cc, .agg #[.int .i64 a, .int .i64 b], .int .i64 c])
theorem scanNum_bad {w' : World} {a b c : Int} {e : Ending} (h : ScanPost w' (.bad a b c) e) : ScanNum a b c e := ⟨_, _, _, h⟩
theorem scanNum_good {w' : World} {l : List Tok} {e : Ending} (h : ScanPost w' (.good l) e) : ScanNum 0 0 0 e := by
  obtain ⟨A, c, h, _⟩ := h
  exact ⟨A, _, c, h⟩

set_option maxRecDepth 100000 in
set_option maxHeartbeats 8000000 in
theorem lxLim_a (n0 n1 n2 : Nat) (w : World) (hS : Std w) (hL : ∃ m, w.cell? ⟨0, 0, Option.none⟩ = some (.int .i64 m)) (h0 : n0 ≤ 255) (h1 : n1 ≤ 255) (h2 : n2 ≤ 255) (hN : 4000 < 3990 + n0 % 21) :
    Calls Tryz.prog 4 #[.int .u8 n0, .int .u8 n1, .int .u8 n2] w fun e w' => e = .returned (.bool true) ∧ Below w.heap.size w w' := by
  have HK := Lib.hid (known47 w hS hL)
  have HS := Lib.hid hS
  have HLI : Hid (LenIs w) := Lib.hid hL
  obtain ⟨N, hNe⟩ : ∃ N, 3990 + n0 % 21 = N := ⟨_, rfl⟩
  obtain ⟨M, hMe⟩ : ∃ M, 30 + n1 % 6 = M := ⟨_, rfl⟩
  obtain ⟨K, hKe⟩ : ∃ K, n2 % 3 = K := ⟨_, rfl⟩
  obtain ⟨L, hLe⟩ : ∃ L, 65535 + K = L := ⟨_, rfl⟩
  rw [hNe] at hN
  have HR1 := Lib.hid (fun W => repeat_any [97, 32] N W (by omega) (by decide))
  have HR2 := Lib.hid (fun W => repeat_any [120] M W (by omega) (by decide))
  have HR3 := Lib.hid (fun W => repeat_any [32] L W (by omega) (by decide))
  have HS1 := Lib.hid (fun W hW hLW => scan_any (Lib.repeatL [97, 32] N) W hW hLW (by rw [rep_len]; omega))
  have HS2 := Lib.hid (fun W hW hLW => scan_any (98 :: 32 :: Lib.repeatL [120] M) W hW hLW (by simp only [List.length_cons, one_len]; omega))
  have HS3 := Lib.hid (fun W hW hLW => scan_any (Lib.repeatL [32] L) W hW hLW (by rw [one_len]; omega))
  have i1 : (3990 : Int) + (n0 : Int) % 21 = (N : Int) := by omega
  have i2 : (30 : Int) + (n1 : Int) % 6 = (M : Int) := by omega
  have i3 : (n2 : Int) % 3 = (K : Int) := by omega
  have i4 : (65535 : Int) + (K : Int) = (L : Int) := by omega
  have HLE := Lib.hid hLe
  have hK3 : K ≤ 2 := by omega
  have hM3 : M ≤ 35 := by omega
  have hM4 : 30 ≤ M := by omega
  rw [scan_words_more N hN (by omega)] at HS1
  have l1 := rep_len N
  have l2 := one_len 120 M
  have l3 := one_len 32 L
  clear hS hL hNe hMe hKe hLe
  generalize Lib.repeatL [97, 32] N = t1 at *
  generalize ht2 : Lib.repeatL [120] M = t2 at *
  generalize ht3 : Lib.repeatL [32] L = t3 at *
  have HT2 := Lib.hid ht2
  have HT3 := Lib.hid ht3
  clear ht2 ht3
  go_enter Tryz.func4, Tryz.ntmps4
  go_wp2_with fail
  refine HK.out.mono ?_
  rintro e w1 ⟨rfl, hbw⟩
  go_wp2_with fail
  refine (HR1.out _).mono ?_
  rintro e w2 ⟨rfl, hb⟩
  replace hbw := hbw.trans (hb.mono hbw.size)
  clear hb
  go_wp2_with fail
  refine (HS1.out _ (HS.out.below hbw (Nat.le_refl _)) (HLI.out.below hbw)).mono ?_
  rintro e w3 ⟨he, hb⟩
  obtain ⟨A1, m1, c1, rfl⟩ := scanNum_bad he
  clear he
  replace hbw := hbw.trans (hb.mono hbw.size)
  have hz3 := hbw.size
  clear hb
  go_wp2_with fail
  refine (HR2.out _).mono ?_
  rintro e w4 ⟨rfl, hb⟩
  rw [World.size_alloc] at hb
  have CP := cells_of_below hb
  have hb2 := below_result hb
  replace hbw := hbw.trans (hb2.mono hbw.size)
  have HCP := Lib.hid CP
  clear hb hb2 CP
  go_wp2_with fail
  rw [show (⟨#[98, 32]⟩ ++ ⟨t2.toArray⟩ : ByteArray) = ⟨(98 :: 32 :: t2).toArray⟩ from ba_append [98, 32] t2]
  by_cases hM : 32 < M
  · have hsc := scan_long_word M hM (by omega)
    rw [HT2.out] at hsc
    rw [hsc] at HS2
    refine (HS2.out _ (HS.out.below hbw (Nat.le_refl _)) (HLI.out.below hbw)).mono ?_
    rintro e w5 ⟨he, hb⟩
    obtain ⟨A2, m2, c2, rfl⟩ := scanNum_bad he
    clear he hsc
    replace HCP := Lib.hid (HCP.out.below hb HCP.out.lt)
    replace hbw := hbw.trans (hb.mono hbw.size)
    have p0 := HCP.out.cell 0
    have p1 := HCP.out.cell 1
    have f0 := HCP.out.free 0
    have f1 := HCP.out.free 1
    simp only [List.getElem?_cons_succ, List.getElem?_cons_zero] at p0 p1
    clear hb
    go_upto_region 12 with (fail)
    obtain ⟨W5, hW5⟩ : ∃ W5, W5 = (w5.setCell ⟨w3.heap.size, 0, Option.none⟩ (.int .i64 1)).setCell ⟨w3.heap.size, 1, Option.none⟩ (.int .i64 3) := ⟨_, rfl⟩
    replace HCP : Hid (Cells W5 w3.heap.size 25 [.int .i64 1, .int .i64 3]) := Lib.hid (by rw [hW5]; exact (HCP.out.set 0 _).set 1 _)
    replace hbw : Below w.heap.size w W5 := by rw [hW5]; exact (hbw.setCell hz3 _).setCell hz3 _
    rw [← hW5]
    clear hW5 p0 p1 f0 f1
    have p0 := HCP.out.cell 0
    have p1 := HCP.out.cell 1
    simp only [List.getElem?_cons_succ, List.getElem?_cons_zero] at p0 p1
    go_wp2_with fail
    refine (HR3.out _).mono ?_
    rintro e w6 ⟨rfl, hb⟩
    replace HCP := Lib.hid (HCP.out.below hb HCP.out.lt)
    replace hbw := hbw.trans (hb.mono hbw.size)
    clear hb p0 p1
    go_wp2_with fail
    by_cases hK : K = 2
    · have hsc := scan_too_many L (by rw [← HLE.out]; omega)
      rw [HT3.out] at hsc
      rw [hsc] at HS3
      refine (HS3.out _ (HS.out.below hbw (Nat.le_refl _)) (HLI.out.below hbw)).mono ?_
      rintro e w7 ⟨he, hb⟩
      obtain ⟨A3, m3, c3, rfl⟩ := scanNum_bad he
      clear he hsc
      replace HCP := Lib.hid (HCP.out.below hb HCP.out.lt)
      replace hbw := hbw.trans (hb.mono hbw.size)
      have p0 := HCP.out.cell 0
      have p1 := HCP.out.cell 1
      have f0 := HCP.out.free 0
      have f1 := HCP.out.free 1
      simp only [List.getElem?_cons_succ, List.getElem?_cons_zero] at p0 p1
      have hk2 : ((K : Int) == 2) = true := by rw [hK]; rfl
      clear hb hK
      go_wp2_with fail
      go_ret
      exact ⟨rfl, (hbw.setCell hz3 _).setCell hz3 _⟩
    · have hsc := scan_blanks L (by rw [← HLE.out]; omega)
      rw [HT3.out] at hsc
      rw [hsc] at HS3
      refine (HS3.out _ (HS.out.below hbw (Nat.le_refl _)) (HLI.out.below hbw)).mono ?_
      rintro e w7 ⟨he, hb⟩
      obtain ⟨A3, m3, c3, rfl⟩ := scanNum_good he
      clear he hsc
      replace HCP := Lib.hid (HCP.out.below hb HCP.out.lt)
      replace hbw := hbw.trans (hb.mono hbw.size)
      have p0 := HCP.out.cell 0
      have p1 := HCP.out.cell 1
      have f0 := HCP.out.free 0
      have f1 := HCP.out.free 1
      simp only [List.getElem?_cons_succ, List.getElem?_cons_zero] at p0 p1
      have hk2 : ((K : Int) == 2) = false := by rw [beq_eq_false_iff_ne]; omega
      clear hb hK
      go_wp2_with fail
      go_ret
      exact ⟨rfl, (hbw.setCell hz3 _).setCell hz3 _⟩
  · obtain ⟨ls, hsc⟩ := scan_short_word M (by omega) (by omega)
    rw [HT2.out] at hsc
    rw [hsc] at HS2
    refine (HS2.out _ (HS.out.below hbw (Nat.le_refl _)) (HLI.out.below hbw)).mono ?_
    rintro e w5 ⟨he, hb⟩
    obtain ⟨A2, m2, c2, rfl⟩ := scanNum_good he
    clear he hsc
    replace HCP := Lib.hid (HCP.out.below hb HCP.out.lt)
    replace hbw := hbw.trans (hb.mono hbw.size)
    have p0 := HCP.out.cell 0
    have p1 := HCP.out.cell 1
    have f0 := HCP.out.free 0
    have f1 := HCP.out.free 1
    simp only [List.getElem?_cons_succ, List.getElem?_cons_zero] at p0 p1
    clear hb
    go_upto_region 12 with (fail)
    obtain ⟨W5, hW5⟩ : ∃ W5, W5 = (w5.setCell ⟨w3.heap.size, 0, Option.none⟩ (.int .i64 0)).setCell ⟨w3.heap.size, 1, Option.none⟩ (.int .i64 0) := ⟨_, rfl⟩
    replace HCP : Hid (Cells W5 w3.heap.size 25 [.int .i64 0, .int .i64 0]) := Lib.hid (by rw [hW5]; exact (HCP.out.set 0 _).set 1 _)
    replace hbw : Below w.heap.size w W5 := by rw [hW5]; exact (hbw.setCell hz3 _).setCell hz3 _
    rw [← hW5]
    clear hW5 p0 p1 f0 f1
    have p0 := HCP.out.cell 0
    have p1 := HCP.out.cell 1
    simp only [List.getElem?_cons_succ, List.getElem?_cons_zero] at p0 p1
    go_wp2_with fail
    refine (HR3.out _).mono ?_
    rintro e w6 ⟨rfl, hb⟩
    replace HCP := Lib.hid (HCP.out.below hb HCP.out.lt)
    replace hbw := hbw.trans (hb.mono hbw.size)
    clear hb p0 p1
    go_wp2_with fail
    by_cases hK : K = 2
    · have hsc := scan_too_many L (by rw [← HLE.out]; omega)
      rw [HT3.out] at hsc
      rw [hsc] at HS3
      refine (HS3.out _ (HS.out.below hbw (Nat.le_refl _)) (HLI.out.below hbw)).mono ?_
      rintro e w7 ⟨he, hb⟩
      obtain ⟨A3, m3, c3, rfl⟩ := scanNum_bad he
      clear he hsc
      replace HCP := Lib.hid (HCP.out.below hb HCP.out.lt)
      replace hbw := hbw.trans (hb.mono hbw.size)
      have p0 := HCP.out.cell 0
      have p1 := HCP.out.cell 1
      have f0 := HCP.out.free 0
      have f1 := HCP.out.free 1
      simp only [List.getElem?_cons_succ, List.getElem?_cons_zero] at p0 p1
      have hk2 : ((K : Int) == 2) = true := by rw [hK]; rfl
      clear hb hK
      go_wp2_with fail
      go_ret
      exact ⟨rfl, (hbw.setCell hz3 _).setCell hz3 _⟩
    · have hsc := scan_blanks L (by rw [← HLE.out]; omega)
      rw [HT3.out] at hsc
      rw [hsc] at HS3
      refine (HS3.out _ (HS.out.below hbw (Nat.le_refl _)) (HLI.out.below hbw)).mono ?_
      rintro e w7 ⟨he, hb⟩
      obtain ⟨A3, m3, c3, rfl⟩ := scanNum_good he
      clear he hsc
      replace HCP := Lib.hid (HCP.out.below hb HCP.out.lt)
      replace hbw := hbw.trans (hb.mono hbw.size)
      have p0 := HCP.out.cell 0
      have p1 := HCP.out.cell 1
      have f0 := HCP.out.free 0
      have f1 := HCP.out.free 1
      simp only [List.getElem?_cons_succ, List.getElem?_cons_zero] at p0 p1
      have hk2 : ((K : Int) == 2) = false := by rw [beq_eq_false_iff_ne]; omega
      clear hb hK
      go_wp2_with fail
      go_ret
      exact ⟨rfl, (hbw.setCell hz3 _).setCell hz3 _⟩

set_option maxRecDepth 100000 in
set_option maxHeartbeats 8000000 in
theorem lxLim_b (n0 n1 n2 : Nat) (w : World) (hS : Std w) (hL : ∃ m, w.cell? ⟨0, 0, Option.none⟩ = some (.int .i64 m)) (h0 : n0 ≤ 255) (h1 : n1 ≤ 255) (h2 : n2 ≤ 255) (hN : 3990 + n0 % 21 = 4000) :
    Calls Tryz.prog 4 #[.int .u8 n0, .int .u8 n1, .int .u8 n2] w fun e w' => e = .returned (.bool true) ∧ Below w.heap.size w w' := by
  have HK := Lib.hid (known47 w hS hL)
  have HS := Lib.hid hS
  have HLI : Hid (LenIs w) := Lib.hid hL
  obtain ⟨N, hNe⟩ : ∃ N, 3990 + n0 % 21 = N := ⟨_, rfl⟩
  obtain ⟨M, hMe⟩ : ∃ M, 30 + n1 % 6 = M := ⟨_, rfl⟩
  obtain ⟨K, hKe⟩ : ∃ K, n2 % 3 = K := ⟨_, rfl⟩
  obtain ⟨L, hLe⟩ : ∃ L, 65535 + K = L := ⟨_, rfl⟩
  rw [hNe] at hN
  have HR1 := Lib.hid (fun W => repeat_any [97, 32] N W (by omega) (by decide))
  have HR2 := Lib.hid (fun W => repeat_any [120] M W (by omega) (by decide))
  have HR3 := Lib.hid (fun W => repeat_any [32] L W (by omega) (by decide))
  have HS1 := Lib.hid (fun W hW hLW => scan_any (Lib.repeatL [97, 32] N) W hW hLW (by rw [rep_len]; omega))
  have HS2 := Lib.hid (fun W hW hLW => scan_any (98 :: 32 :: Lib.repeatL [120] M) W hW hLW (by simp only [List.length_cons, one_len]; omega))
  have HS3 := Lib.hid (fun W hW hLW => scan_any (Lib.repeatL [32] L) W hW hLW (by rw [one_len]; omega))
  have i1 : (3990 : Int) + (n0 : Int) % 21 = (N : Int) := by omega
  have i2 : (30 : Int) + (n1 : Int) % 6 = (M : Int) := by omega
  have i3 : (n2 : Int) % 3 = (K : Int) := by omega
  have i4 : (65535 : Int) + (K : Int) = (L : Int) := by omega
  have HLE := Lib.hid hLe
  have hK3 : K ≤ 2 := by omega
  have hM3 : M ≤ 35 := by omega
  have hM4 : 30 ≤ M := by omega
  have hq : scanRead (Lib.repeatL [97, 32] N) = .bad 1 8001 4 := by rw [hN]; exact scan_words_full
  rw [hq] at HS1
  have j1 : ((N : Int) == 4000) = true := by rw [hN]; rfl
  have j2 : 2 * (N : Int) + 1 = 8001 := by omega
  have j3 : ¬ 4000 < (N : Int) := by omega
  have j4 : (N : Int) ≤ 10000 := by omega
  clear hq hN
  have l1 := rep_len N
  have l2 := one_len 120 M
  have l3 := one_len 32 L
  clear hS hL hNe hMe hKe hLe
  generalize Lib.repeatL [97, 32] N = t1 at *
  generalize ht2 : Lib.repeatL [120] M = t2 at *
  generalize ht3 : Lib.repeatL [32] L = t3 at *
  have HT2 := Lib.hid ht2
  have HT3 := Lib.hid ht3
  clear ht2 ht3
  go_enter Tryz.func4, Tryz.ntmps4
  go_wp2_with fail
  refine HK.out.mono ?_
  rintro e w1 ⟨rfl, hbw⟩
  go_wp2_with fail
  refine (HR1.out _).mono ?_
  rintro e w2 ⟨rfl, hb⟩
  replace hbw := hbw.trans (hb.mono hbw.size)
  clear hb
  go_wp2_with fail
  refine (HS1.out _ (HS.out.below hbw (Nat.le_refl _)) (HLI.out.below hbw)).mono ?_
  rintro e w3 ⟨he, hb⟩
  obtain ⟨A1, m1, c1, rfl⟩ := scanNum_bad he
  clear he
  replace hbw := hbw.trans (hb.mono hbw.size)
  have hz3 := hbw.size
  clear hb
  go_wp2_with fail
  refine (HR2.out _).mono ?_
  rintro e w4 ⟨rfl, hb⟩
  rw [World.size_alloc] at hb
  have CP := cells_of_below hb
  have hb2 := below_result hb
  replace hbw := hbw.trans (hb2.mono hbw.size)
  have HCP := Lib.hid CP
  clear hb hb2 CP
  go_wp2_with fail
  rw [show (⟨#[98, 32]⟩ ++ ⟨t2.toArray⟩ : ByteArray) = ⟨(98 :: 32 :: t2).toArray⟩ from ba_append [98, 32] t2]
  by_cases hM : 32 < M
  · have hsc := scan_long_word M hM (by omega)
    rw [HT2.out] at hsc
    rw [hsc] at HS2
    refine (HS2.out _ (HS.out.below hbw (Nat.le_refl _)) (HLI.out.below hbw)).mono ?_
    rintro e w5 ⟨he, hb⟩
    obtain ⟨A2, m2, c2, rfl⟩ := scanNum_bad he
    clear he hsc
    replace HCP := Lib.hid (HCP.out.below hb HCP.out.lt)
    replace hbw := hbw.trans (hb.mono hbw.size)
    have p0 := HCP.out.cell 0
    have p1 := HCP.out.cell 1
    have f0 := HCP.out.free 0
    have f1 := HCP.out.free 1
    simp only [List.getElem?_cons_succ, List.getElem?_cons_zero] at p0 p1
    clear hb
    go_upto_region 12 with (fail)
    obtain ⟨W5, hW5⟩ : ∃ W5, W5 = (w5.setCell ⟨w3.heap.size, 0, Option.none⟩ (.int .i64 1)).setCell ⟨w3.heap.size, 1, Option.none⟩ (.int .i64 3) := ⟨_, rfl⟩
    replace HCP : Hid (Cells W5 w3.heap.size 25 [.int .i64 1, .int .i64 3]) := Lib.hid (by rw [hW5]; exact (HCP.out.set 0 _).set 1 _)
    replace hbw : Below w.heap.size w W5 := by rw [hW5]; exact (hbw.setCell hz3 _).setCell hz3 _
    rw [← hW5]
    clear hW5 p0 p1 f0 f1
    have p0 := HCP.out.cell 0
    have p1 := HCP.out.cell 1
    simp only [List.getElem?_cons_succ, List.getElem?_cons_zero] at p0 p1
    go_wp2_with fail
    refine (HR3.out _).mono ?_
    rintro e w6 ⟨rfl, hb⟩
    replace HCP := Lib.hid (HCP.out.below hb HCP.out.lt)
    replace hbw := hbw.trans (hb.mono hbw.size)
    clear hb p0 p1
    go_wp2_with fail
    by_cases hK : K = 2
    · have hsc := scan_too_many L (by rw [← HLE.out]; omega)
      rw [HT3.out] at hsc
      rw [hsc] at HS3
      refine (HS3.out _ (HS.out.below hbw (Nat.le_refl _)) (HLI.out.below hbw)).mono ?_
      rintro e w7 ⟨he, hb⟩
      obtain ⟨A3, m3, c3, rfl⟩ := scanNum_bad he
      clear he hsc
      replace HCP := Lib.hid (HCP.out.below hb HCP.out.lt)
      replace hbw := hbw.trans (hb.mono hbw.size)
      have p0 := HCP.out.cell 0
      have p1 := HCP.out.cell 1
      have f0 := HCP.out.free 0
      have f1 := HCP.out.free 1
      simp only [List.getElem?_cons_succ, List.getElem?_cons_zero] at p0 p1
      have hk2 : ((K : Int) == 2) = true := by rw [hK]; rfl
      clear hb hK
      go_wp2_with fail
      go_ret
      exact ⟨rfl, (hbw.setCell hz3 _).setCell hz3 _⟩
    · have hsc := scan_blanks L (by rw [← HLE.out]; omega)
      rw [HT3.out] at hsc
      rw [hsc] at HS3
      refine (HS3.out _ (HS.out.below hbw (Nat.le_refl _)) (HLI.out.below hbw)).mono ?_
      rintro e w7 ⟨he, hb⟩
      obtain ⟨A3, m3, c3, rfl⟩ := scanNum_good he
      clear he hsc
      replace HCP := Lib.hid (HCP.out.below hb HCP.out.lt)
      replace hbw := hbw.trans (hb.mono hbw.size)
      have p0 := HCP.out.cell 0
      have p1 := HCP.out.cell 1
      have f0 := HCP.out.free 0
      have f1 := HCP.out.free 1
      simp only [List.getElem?_cons_succ, List.getElem?_cons_zero] at p0 p1
      have hk2 : ((K : Int) == 2) = false := by rw [beq_eq_false_iff_ne]; omega
      clear hb hK
      go_wp2_with fail
      go_ret
      exact ⟨rfl, (hbw.setCell hz3 _).setCell hz3 _⟩
  · obtain ⟨ls, hsc⟩ := scan_short_word M (by omega) (by omega)
    rw [HT2.out] at hsc
    rw [hsc] at HS2
    refine (HS2.out _ (HS.out.below hbw (Nat.le_refl _)) (HLI.out.below hbw)).mono ?_
    rintro e w5 ⟨he, hb⟩
    obtain ⟨A2, m2, c2, rfl⟩ := scanNum_good he
    clear he hsc
    replace HCP := Lib.hid (HCP.out.below hb HCP.out.lt)
    replace hbw := hbw.trans (hb.mono hbw.size)
    have p0 := HCP.out.cell 0
    have p1 := HCP.out.cell 1
    have f0 := HCP.out.free 0
    have f1 := HCP.out.free 1
    simp only [List.getElem?_cons_succ, List.getElem?_cons_zero] at p0 p1
    clear hb
    go_upto_region 12 with (fail)
    obtain ⟨W5, hW5⟩ : ∃ W5, W5 = (w5.setCell ⟨w3.heap.size, 0, Option.none⟩ (.int .i64 0)).setCell ⟨w3.heap.size, 1, Option.none⟩ (.int .i64 0) := ⟨_, rfl⟩
    replace HCP : Hid (Cells W5 w3.heap.size 25 [.int .i64 0, .int .i64 0]) := Lib.hid (by rw [hW5]; exact (HCP.out.set 0 _).set 1 _)
    replace hbw : Below w.heap.size w W5 := by rw [hW5]; exact (hbw.setCell hz3 _).setCell hz3 _
    rw [← hW5]
    clear hW5 p0 p1 f0 f1
    have p0 := HCP.out.cell 0
    have p1 := HCP.out.cell 1
    simp only [List.getElem?_cons_succ, List.getElem?_cons_zero] at p0 p1
    go_wp2_with fail
    refine (HR3.out _).mono ?_
    rintro e w6 ⟨rfl, hb⟩
    replace HCP := Lib.hid (HCP.out.below hb HCP.out.lt)
    replace hbw := hbw.trans (hb.mono hbw.size)
    clear hb p0 p1
    go_wp2_with fail
    by_cases hK : K = 2
    · have hsc := scan_too_many L (by rw [← HLE.out]; omega)
      rw [HT3.out] at hsc
      rw [hsc] at HS3
      refine (HS3.out _ (HS.out.below hbw (Nat.le_refl _)) (HLI.out.below hbw)).mono ?_
      rintro e w7 ⟨he, hb⟩
      obtain ⟨A3, m3, c3, rfl⟩ := scanNum_bad he
      clear he hsc
      replace HCP := Lib.hid (HCP.out.below hb HCP.out.lt)
      replace hbw := hbw.trans (hb.mono hbw.size)
      have p0 := HCP.out.cell 0
      have p1 := HCP.out.cell 1
      have f0 := HCP.out.free 0
      have f1 := HCP.out.free 1
      simp only [List.getElem?_cons_succ, List.getElem?_cons_zero] at p0 p1
      have hk2 : ((K : Int) == 2) = true := by rw [hK]; rfl
      clear hb hK
      go_wp2_with fail
      go_ret
      exact ⟨rfl, (hbw.setCell hz3 _).setCell hz3 _⟩
    · have hsc := scan_blanks L (by rw [← HLE.out]; omega)
      rw [HT3.out] at hsc
      rw [hsc] at HS3
      refine (HS3.out _ (HS.out.below hbw (Nat.le_refl _)) (HLI.out.below hbw)).mono ?_
      rintro e w7 ⟨he, hb⟩
      obtain ⟨A3, m3, c3, rfl⟩ := scanNum_good he
      clear he hsc
      replace HCP := Lib.hid (HCP.out.below hb HCP.out.lt)
      replace hbw := hbw.trans (hb.mono hbw.size)
      have p0 := HCP.out.cell 0
      have p1 := HCP.out.cell 1
      have f0 := HCP.out.free 0
      have f1 := HCP.out.free 1
      simp only [List.getElem?_cons_succ, List.getElem?_cons_zero] at p0 p1
      have hk2 : ((K : Int) == 2) = false := by rw [beq_eq_false_iff_ne]; omega
      clear hb hK
      go_wp2_with fail
      go_ret
      exact ⟨rfl, (hbw.setCell hz3 _).setCell hz3 _⟩

set_option maxRecDepth 100000 in
set_option maxHeartbeats 8000000 in
theorem lxLim_c (n0 n1 n2 : Nat) (w : World) (hS : Std w) (hL : ∃ m, w.cell? ⟨0, 0, Option.none⟩ = some (.int .i64 m)) (h0 : n0 ≤ 255) (h1 : n1 ≤ 255) (h2 : n2 ≤ 255) (hN : 3990 + n0 % 21 < 4000) :
    Calls Tryz.prog 4 #[.int .u8 n0, .int .u8 n1, .int .u8 n2] w fun e w' => e = .returned (.bool true) ∧ Below w.heap.size w w' := by
  have HK := Lib.hid (known47 w hS hL)
  have HS := Lib.hid hS
  have HLI : Hid (LenIs w) := Lib.hid hL
  obtain ⟨N, hNe⟩ : ∃ N, 3990 + n0 % 21 = N := ⟨_, rfl⟩
  obtain ⟨M, hMe⟩ : ∃ M, 30 + n1 % 6 = M := ⟨_, rfl⟩
  obtain ⟨K, hKe⟩ : ∃ K, n2 % 3 = K := ⟨_, rfl⟩
  obtain ⟨L, hLe⟩ : ∃ L, 65535 + K = L := ⟨_, rfl⟩
  rw [hNe] at hN
  have HR1 := Lib.hid (fun W => repeat_any [97, 32] N W (by omega) (by decide))
  have HR2 := Lib.hid (fun W => repeat_any [120] M W (by omega) (by decide))
  have HR3 := Lib.hid (fun W => repeat_any [32] L W (by omega) (by decide))
  have HS1 := Lib.hid (fun W hW hLW => scan_any (Lib.repeatL [97, 32] N) W hW hLW (by rw [rep_len]; omega))
  have HS2 := Lib.hid (fun W hW hLW => scan_any (98 :: 32 :: Lib.repeatL [120] M) W hW hLW (by simp only [List.length_cons, one_len]; omega))
  have HS3 := Lib.hid (fun W hW hLW => scan_any (Lib.repeatL [32] L) W hW hLW (by rw [one_len]; omega))
  have i1 : (3990 : Int) + (n0 : Int) % 21 = (N : Int) := by omega
  have i2 : (30 : Int) + (n1 : Int) % 6 = (M : Int) := by omega
  have i3 : (n2 : Int) % 3 = (K : Int) := by omega
  have i4 : (65535 : Int) + (K : Int) = (L : Int) := by omega
  have HLE := Lib.hid hLe
  have hK3 : K ≤ 2 := by omega
  have hM3 : M ≤ 35 := by omega
  have hM4 : 30 ≤ M := by omega
  obtain ⟨lw, hq, hlw⟩ := scan_words_less N (by omega) hN
  rw [hq] at HS1
  have j1 : ((N : Int) == 4000) = false := by rw [beq_eq_false_iff_ne]; omega
  have HLW := Lib.hid hlw
  clear hq hlw
  have l1 := rep_len N
  have l2 := one_len 120 M
  have l3 := one_len 32 L
  clear hS hL hNe hMe hKe hLe
  generalize Lib.repeatL [97, 32] N = t1 at *
  generalize ht2 : Lib.repeatL [120] M = t2 at *
  generalize ht3 : Lib.repeatL [32] L = t3 at *
  have HT2 := Lib.hid ht2
  have HT3 := Lib.hid ht3
  clear ht2 ht3
  go_enter Tryz.func4, Tryz.ntmps4
  go_wp2_with fail
  refine HK.out.mono ?_
  rintro e w1 ⟨rfl, hbw⟩
  go_wp2_with fail
  refine (HR1.out _).mono ?_
  rintro e w2 ⟨rfl, hb⟩
  replace hbw := hbw.trans (hb.mono hbw.size)
  clear hb
  go_wp2_with fail
  refine (HS1.out _ (HS.out.below hbw (Nat.le_refl _)) (HLI.out.below hbw)).mono ?_
  rintro e w3 ⟨he, hb⟩
  obtain ⟨A1, c1, he, _⟩ := he
  rw [HLW.out] at he
  subst he
  replace hbw := hbw.trans (hb.mono hbw.size)
  have hz3 := hbw.size
  clear hb
  go_wp2_with fail
  refine (HR2.out _).mono ?_
  rintro e w4 ⟨rfl, hb⟩
  rw [World.size_alloc] at hb
  have CP := cells_of_below hb
  have hb2 := below_result hb
  replace hbw := hbw.trans (hb2.mono hbw.size)
  have HCP := Lib.hid CP
  clear hb hb2 CP
  go_wp2_with fail
  rw [show (⟨#[98, 32]⟩ ++ ⟨t2.toArray⟩ : ByteArray) = ⟨(98 :: 32 :: t2).toArray⟩ from ba_append [98, 32] t2]
  by_cases hM : 32 < M
  · have hsc := scan_long_word M hM (by omega)
    rw [HT2.out] at hsc
    rw [hsc] at HS2
    refine (HS2.out _ (HS.out.below hbw (Nat.le_refl _)) (HLI.out.below hbw)).mono ?_
    rintro e w5 ⟨he, hb⟩
    obtain ⟨A2, m2, c2, rfl⟩ := scanNum_bad he
    clear he hsc
    replace HCP := Lib.hid (HCP.out.below hb HCP.out.lt)
    replace hbw := hbw.trans (hb.mono hbw.size)
    have p0 := HCP.out.cell 0
    have p1 := HCP.out.cell 1
    have f0 := HCP.out.free 0
    have f1 := HCP.out.free 1
    simp only [List.getElem?_cons_succ, List.getElem?_cons_zero] at p0 p1
    clear hb
    go_upto_region 12 with (fail)
    obtain ⟨W5, hW5⟩ : ∃ W5, W5 = (w5.setCell ⟨w3.heap.size, 0, Option.none⟩ (.int .i64 1)).setCell ⟨w3.heap.size, 1, Option.none⟩ (.int .i64 3) := ⟨_, rfl⟩
    replace HCP : Hid (Cells W5 w3.heap.size 25 [.int .i64 1, .int .i64 3]) := Lib.hid (by rw [hW5]; exact (HCP.out.set 0 _).set 1 _)
    replace hbw : Below w.heap.size w W5 := by rw [hW5]; exact (hbw.setCell hz3 _).setCell hz3 _
    rw [← hW5]
    clear hW5 p0 p1 f0 f1
    have p0 := HCP.out.cell 0
    have p1 := HCP.out.cell 1
    simp only [List.getElem?_cons_succ, List.getElem?_cons_zero] at p0 p1
    go_wp2_with fail
    refine (HR3.out _).mono ?_
    rintro e w6 ⟨rfl, hb⟩
    replace HCP := Lib.hid (HCP.out.below hb HCP.out.lt)
    replace hbw := hbw.trans (hb.mono hbw.size)
    clear hb p0 p1
    go_wp2_with fail
    by_cases hK : K = 2
    · have hsc := scan_too_many L (by rw [← HLE.out]; omega)
      rw [HT3.out] at hsc
      rw [hsc] at HS3
      refine (HS3.out _ (HS.out.below hbw (Nat.le_refl _)) (HLI.out.below hbw)).mono ?_
      rintro e w7 ⟨he, hb⟩
      obtain ⟨A3, m3, c3, rfl⟩ := scanNum_bad he
      clear he hsc
      replace HCP := Lib.hid (HCP.out.below hb HCP.out.lt)
      replace hbw := hbw.trans (hb.mono hbw.size)
      have p0 := HCP.out.cell 0
      have p1 := HCP.out.cell 1
      have f0 := HCP.out.free 0
      have f1 := HCP.out.free 1
      simp only [List.getElem?_cons_succ, List.getElem?_cons_zero] at p0 p1
      have hk2 : ((K : Int) == 2) = true := by rw [hK]; rfl
      clear hb hK
      go_wp2_with fail
      go_ret
      exact ⟨rfl, (hbw.setCell hz3 _).setCell hz3 _⟩
    · have hsc := scan_blanks L (by rw [← HLE.out]; omega)
      rw [HT3.out] at hsc
      rw [hsc] at HS3
      refine (HS3.out _ (HS.out.below hbw (Nat.le_refl _)) (HLI.out.below hbw)).mono ?_
      rintro e w7 ⟨he, hb⟩
      obtain ⟨A3, m3, c3, rfl⟩ := scanNum_good he
      clear he hsc
      replace HCP := Lib.hid (HCP.out.below hb HCP.out.lt)
      replace hbw := hbw.trans (hb.mono hbw.size)
      have p0 := HCP.out.cell 0
      have p1 := HCP.out.cell 1
      have f0 := HCP.out.free 0
      have f1 := HCP.out.free 1
      simp only [List.getElem?_cons_succ, List.getElem?_cons_zero] at p0 p1
      have hk2 : ((K : Int) == 2) = false := by rw [beq_eq_false_iff_ne]; omega
      clear hb hK
      go_wp2_with fail
      go_ret
      exact ⟨rfl, (hbw.setCell hz3 _).setCell hz3 _⟩
  · obtain ⟨ls, hsc⟩ := scan_short_word M (by omega) (by omega)
    rw [HT2.out] at hsc
    rw [hsc] at HS2
    refine (HS2.out _ (HS.out.below hbw (Nat.le_refl _)) (HLI.out.below hbw)).mono ?_
    rintro e w5 ⟨he, hb⟩
    obtain ⟨A2, m2, c2, rfl⟩ := scanNum_good he
    clear he hsc
    replace HCP := Lib.hid (HCP.out.below hb HCP.out.lt)
    replace hbw := hbw.trans (hb.mono hbw.size)
    have p0 := HCP.out.cell 0
    have p1 := HCP.out.cell 1
    have f0 := HCP.out.free 0
    have f1 := HCP.out.free 1
    simp only [List.getElem?_cons_succ, List.getElem?_cons_zero] at p0 p1
    clear hb
    go_upto_region 12 with (fail)
    obtain ⟨W5, hW5⟩ : ∃ W5, W5 = (w5.setCell ⟨w3.heap.size, 0, Option.none⟩ (.int .i64 0)).setCell ⟨w3.heap.size, 1, Option.none⟩ (.int .i64 0) := ⟨_, rfl⟩
    replace HCP : Hid (Cells W5 w3.heap.size 25 [.int .i64 0, .int .i64 0]) := Lib.hid (by rw [hW5]; exact (HCP.out.set 0 _).set 1 _)
    replace hbw : Below w.heap.size w W5 := by rw [hW5]; exact (hbw.setCell hz3 _).setCell hz3 _
    rw [← hW5]
    clear hW5 p0 p1 f0 f1
    have p0 := HCP.out.cell 0
    have p1 := HCP.out.cell 1
    simp only [List.getElem?_cons_succ, List.getElem?_cons_zero] at p0 p1
    go_wp2_with fail
    refine (HR3.out _).mono ?_
    rintro e w6 ⟨rfl, hb⟩
    replace HCP := Lib.hid (HCP.out.below hb HCP.out.lt)
    replace hbw := hbw.trans (hb.mono hbw.size)
    clear hb p0 p1
    go_wp2_with fail
    by_cases hK : K = 2
    · have hsc := scan_too_many L (by rw [← HLE.out]; omega)
      rw [HT3.out] at hsc
      rw [hsc] at HS3
      refine (HS3.out _ (HS.out.below hbw (Nat.le_refl _)) (HLI.out.below hbw)).mono ?_
      rintro e w7 ⟨he, hb⟩
      obtain ⟨A3, m3, c3, rfl⟩ := scanNum_bad he
      clear he hsc
      replace HCP := Lib.hid (HCP.out.below hb HCP.out.lt)
      replace hbw := hbw.trans (hb.mono hbw.size)
      have p0 := HCP.out.cell 0
      have p1 := HCP.out.cell 1
      have f0 := HCP.out.free 0
      have f1 := HCP.out.free 1
      simp only [List.getElem?_cons_succ, List.getElem?_cons_zero] at p0 p1
      have hk2 : ((K : Int) == 2) = true := by rw [hK]; rfl
      clear hb hK
      go_wp2_with fail
      go_ret
      exact ⟨rfl, (hbw.setCell hz3 _).setCell hz3 _⟩
    · have hsc := scan_blanks L (by rw [← HLE.out]; omega)
      rw [HT3.out] at hsc
      rw [hsc] at HS3
      refine (HS3.out _ (HS.out.below hbw (Nat.le_refl _)) (HLI.out.below hbw)).mono ?_
      rintro e w7 ⟨he, hb⟩
      obtain ⟨A3, m3, c3, rfl⟩ := scanNum_good he
      clear he hsc
      replace HCP := Lib.hid (HCP.out.below hb HCP.out.lt)
      replace hbw := hbw.trans (hb.mono hbw.size)
      have p0 := HCP.out.cell 0
      have p1 := HCP.out.cell 1
      have f0 := HCP.out.free 0
      have f1 := HCP.out.free 1
      simp only [List.getElem?_cons_succ, List.getElem?_cons_zero] at p0 p1
      have hk2 : ((K : Int) == 2) = false := by rw [beq_eq_false_iff_ne]; omega
      clear hb hK
      go_wp2_with fail
      go_ret
      exact ⟨rfl, (hbw.setCell hz3 _).setCell hz3 _⟩

theorem lxLim_walk (n0 n1 n2 : Nat) (w : World) (hS : Std w) (hL : ∃ m, w.cell? ⟨0, 0, Option.none⟩ = some (.int .i64 m)) (h0 : n0 ≤ 255) (h1 : n1 ≤ 255) (h2 : n2 ≤ 255) :
    Calls Tryz.prog 4 #[.int .u8 n0, .int .u8 n1, .int .u8 n2] w fun e w' => e = .returned (.bool true) ∧ Below w.heap.size w w' := by
  rcases Nat.lt_trichotomy (3990 + n0 % 21) 4000 with h | h | h
  · exact lxLim_c n0 n1 n2 w hS hL h0 h1 h2 h
  · exact lxLim_b n0 n1 n2 w hS hL h0 h1 h2 h
  · exact lxLim_a n0 n1 n2 w hS hL h0 h1 h2 h

end Go.Proofs.YtagfnnongamneaaGreatDoor
