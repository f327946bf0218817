/- TargetRefuses: the walk. -/
import Derived.Test.YtcfkclafpbaagaaGreatDoorGTN
import Derived.Test.YtcfkclafpbaagaaGreatDoorRf1G
import Derived.Test.YtcfkclafpbaagaaGreatDoorGTK
import Derived.Test.YtcfkclafpbaagaaGreatDoorArgRowsG
namespace Go.Proofs.YtcfkclafpbaagaaGreatDoor
open Go.RowKit Go.Lib

theorem lst_few {p : List Int} {l : List (List Int)} (h : l.length ≤ 8) : lstErr p l = chkAll p l := by
  unfold lstErr
  split
  · rename_i h1; unfold chkAll; rw [if_pos h1]
  · rw [if_neg (by omega)]

set_option maxRecDepth 100000 in
set_option maxHeartbeats 4000000 in
theorem refuse_walk (pv : Value) (p : List Int) (lv : Value) (l : List (List Int)) (w : World) (hS : Std w) (hp : IsRow w w.heap.size pv p) (hl : RowsArg w lv l) :
    Calls Tryz.prog 8 #[pv, lv] w fun e w' => e = .returned (.bool true) ∧ Below w.heap.size w w' := by
  obtain ⟨AL, cl, rfl, hlm, hl⟩ := hl
  have HS := Lib.hid hS
  have HP := Lib.hid hp
  have HL := Lib.hid hl
  have HK := Lib.hid (fun W hW => known_any29 W hW)
  obtain ⟨AP, cp, rfl, _, hpm, _⟩ := hp
  unfold maxLen at hpm hlm
  have hpl : p.length ≤ 9223372036854775807 := by omega
  have HLM : Box (l.length ≤ 9223372036854775807) := ⟨by omega⟩
  clear hpm hlm hl hS
  by_cases h8 : 8 < p.length
  · have d8 : decide ((8 : Int) < (p.length : Int)) = true := by rw [decide_eq_true_iff]; omega
    go_enter Tryz.func8, Tryz.ntmps8
    go_wp2_with fail
    refine (HK.out w HS.out).mono ?_
    rintro e w1 ⟨rfl, hb1⟩
    go_wp2_with fail
    refine (HK.out w1 (HS.out.below hb1 (Nat.le_refl _))).mono ?_
    rintro e w2 ⟨rfl, hb2⟩
    go_wp2_with fail
    go_ret
    exact ⟨rfl, hb1.trans (hb2.mono hb1.size)⟩
  · have d8 : decide ((8 : Int) < (p.length : Int)) = false := by rw [decide_eq_false_iff_not]; omega
    clear h8
    cases hf : rowsFew l
    · go_enter Tryz.func8, Tryz.ntmps8
      go_wp2_with fail
      refine (HK.out w HS.out).mono ?_
      rintro e w1 ⟨rfl, hb1⟩
      have HF := Lib.hid (few_any29 AL cl l w1 (HL.out.lift hb1) HLM.out)
      rw [hf] at HF
      go_wp2_with fail
      refine HF.out.mono ?_
      rintro e w2 ⟨rfl, hb2⟩
      have hb2' := hb1.trans (hb2.mono hb1.size)
      go_wp2_with fail
      refine (HK.out w2 (HS.out.below hb2' (Nat.le_refl _))).mono ?_
      rintro e w3 ⟨rfl, hb3⟩
      go_wp2_with fail
      go_ret
      exact ⟨rfl, hb2'.trans (hb3.mono hb2'.size)⟩
    · have h8l : l.length ≤ 8 := by
        unfold rowsFew at hf
        rw [Bool.and_eq_true, decide_eq_true_eq] at hf
        exact hf.2
      have HLE := Lib.hid (lst_few (p := p) h8l)
      have H8 : Box (l.length ≤ 1000000) := ⟨by omega⟩
      clear h8l
      go_enter Tryz.func8, Tryz.ntmps8
      go_wp2_with fail
      refine (HK.out w HS.out).mono ?_
      rintro e w1 ⟨rfl, hb1⟩
      have HF := Lib.hid (few_any29 AL cl l w1 (HL.out.lift hb1) HLM.out)
      rw [hf] at HF
      go_wp2_with fail
      refine HF.out.mono ?_
      rintro e w2 ⟨rfl, hb2⟩
      have hb2' := hb1.trans (hb2.mono hb1.size)
      have hp2 := HP.out.lift hb2'
      have hl2 := HL.out.lift hb2'
      have HC := Lib.hid (checkAll_any _ p AL cl w2.heap.size l w2 hp2 hl2 H8.out)
      have HPC := Lib.hid (primeCheck_any _ p w2.heap.size w2 hp2)
      have HA := Lib.hid (fun h => tgreduce_err _ p AL cl l w2 hp2 hl2 H8.out h)
      have HB := Lib.hid (fun h => tglesser_err _ p AL cl l w2 hp2 hl2 H8.out h)
      have HD := Lib.hid (fun h => tgclosed_err _ p AL cl l w2 hp2 hl2 H8.out h)
      have HE := Lib.hid (fun h => tgweigh_err _ p AL cl l 0 w2 hp2 hl2 H8.out h)
      have HG := Lib.hid (fun h => diamond_err _ p Option.none 0 0 w2 hp2 h)
      rw [HLE.out] at HA HB HD HE
      have HBW := Lib.hid hb2'
      clear HS HP HL HK HF HLE hb1 hb2 hb2' hp2 hl2 HLM hf
      generalize chkAll p l = q at *
      go_wp2_with fail
      refine HC.out.mono ?_
      rintro e w3 ⟨rfl, rfl⟩
      by_cases hq : q = 0
      · subst hq
        go_wp2_with fail
        go_ret
        exact ⟨rfl, HBW.out⟩
      · have hq1 : (q == 0) = false := by simpa using hq
        have hq2 : (q != 0) = true := by simpa using hq
        replace HA := Lib.hid (HA.out hq2)
        replace HB := Lib.hid (HB.out hq2)
        replace HD := Lib.hid (HD.out hq2)
        replace HE := Lib.hid (HE.out hq2)
        clear hq hq2 HC
        generalize primeErr p = r at *
        go_wp2_with fail
        refine HA.out.mono ?_
        rintro e w3 ⟨rfl, rfl⟩
        go_wp2_with fail
        refine HB.out.mono ?_
        rintro e w3 ⟨rfl, rfl⟩
        go_wp2_with fail
        refine HD.out.mono ?_
        rintro e w3 ⟨rfl, rfl⟩
        go_wp2_with fail
        refine HE.out.mono ?_
        rintro e w3 ⟨rfl, rfl⟩
        go_wp2_with fail
        refine HPC.out.mono ?_
        rintro e w3 ⟨rfl, rfl⟩
        by_cases hr : r = 0
        · subst hr
          go_wp2_with fail
          go_ret
          exact ⟨rfl, HBW.out⟩
        · have hr1 : (r == 0) = false := by simpa using hr
          have hr2 : (r != 0) = true := by simpa using hr
          replace HG := Lib.hid (HG.out hr2)
          clear hr hr2
          go_wp2_with fail
          refine HG.out.mono ?_
          rintro e w3 ⟨rfl, rfl⟩
          go_wp2_with fail
          go_ret
          exact ⟨rfl, HBW.out⟩

end Go.Proofs.YtcfkclafpbaagaaGreatDoor
