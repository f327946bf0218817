import Derived.Test.YtaaeekahhhookaaGreatDoorGXAMCk
import Derived.Test.YtaaeekahhhookaaGreatDoorGXPMCk
import Derived.Deep.RegionHeld3
namespace Go.Proofs.YtaaeekahhhookaaGreatDoor
open Go.RowKit Go.Lib
theorem sgn_cases (c : UInt8) : (sgnB c = true ∧ ((48 ≤ c.toNat ∧ c.toNat ≤ 57) ∨ c.toNat = 95 ∨ c.toNat = 35 ∨ c.toNat = 39)) ∨ (sgnB c = false ∧ ((c.toNat < 48 ∨ 57 < c.toNat) ∧ c.toNat ≠ 95 ∧ c.toNat ≠ 35 ∧ c.toNat ≠ 39)) := by
 have h : ∀ m : Fin 256, (sgnB (UInt8.ofNat m.val) = true ∧ ((48 ≤ (UInt8.ofNat m.val).toNat ∧ (UInt8.ofNat m.val).toNat ≤ 57) ∨ (UInt8.ofNat m.val).toNat = 95 ∨ (UInt8.ofNat m.val).toNat = 35 ∨ (UInt8.ofNat m.val).toNat = 39)) ∨ (sgnB (UInt8.ofNat m.val) = false ∧ (((UInt8.ofNat m.val).toNat < 48 ∨ 57 < (UInt8.ofNat m.val).toNat) ∧ (UInt8.ofNat m.val).toNat ≠ 95 ∧ (UInt8.ofNat m.val).toNat ≠ 35 ∧ (UInt8.ofNat m.val).toNat ≠ 39)) := by decide +kernel
 have h2 := h ⟨c.toNat, UInt8.toNat_lt c⟩
 simpa using h2
set_option maxHeartbeats 1000000 in
theorem letter48_any (c : UInt8) (w : World) : Calls Tryz.prog 91 #[.int .u8 (c.toNat : Nat)] w fun e w' => e = .returned (.bool (ltr c)) ∧ w' = w := by
 have hcs := ltr_cases c
 have hcl := UInt8.toNat_lt c
 generalize ltr c = out at *
 generalize c.toNat = n at *
 rcases hcs with ⟨rfl, hcs⟩ | ⟨rfl, hcs⟩
 ·rcases hcs with ⟨h1, h2⟩ | ⟨h1, h2, h3⟩
  ·have g1 : (97 : Int) ≤ (n : Int) := by omega
   have g2 : (n : Int) ≤ 122 := by omega
   go_enter Tryz.func91, Tryz.ntmps91
   go_wp2
   go_ret
   exact ⟨rfl, rfl⟩
  ·have g1 : ¬ (97 : Int) ≤ (n : Int) := by omega
   have g2 : (65 : Int) ≤ (n : Int) := by omega
   have g3 : (n : Int) ≤ 90 := by omega
   go_enter Tryz.func91, Tryz.ntmps91
   go_wp2
   go_ret
   exact ⟨rfl, rfl⟩
 ·rcases hcs with ⟨h1, h2, h3, h4⟩ | ⟨h1, ⟨h3, h4⟩ | h3⟩
  ·have g1 : (97 : Int) ≤ (n : Int) := by omega
   have g2 : ¬ (n : Int) ≤ 122 := by omega
   have g3 : (65 : Int) ≤ (n : Int) := by omega
   have g4 : ¬ (n : Int) ≤ 90 := by omega
   go_enter Tryz.func91, Tryz.ntmps91
   go_wp2
   go_ret
   exact ⟨rfl, rfl⟩
  ·have g1 : ¬ (97 : Int) ≤ (n : Int) := by omega
   have g3 : (65 : Int) ≤ (n : Int) := by omega
   have g4 : ¬ (n : Int) ≤ 90 := by omega
   go_enter Tryz.func91, Tryz.ntmps91
   go_wp2
   go_ret
   exact ⟨rfl, rfl⟩
  ·have g1 : ¬ (97 : Int) ≤ (n : Int) := by omega
   have g3 : ¬ (65 : Int) ≤ (n : Int) := by omega
   go_enter Tryz.func91, Tryz.ntmps91
   go_wp2
   go_ret
   exact ⟨rfl, rfl⟩
set_option maxRecDepth 100000 in
set_option maxHeartbeats 4000000 in
theorem word48_any (s : List UInt8) (w : World) (hl : s.length ≤ 1000000) :
  Calls Tryz.prog 42 #[.string ⟨s.toArray⟩] w fun e w' => e = .returned (.bool (nameB s)) ∧ w' = w := by
 have HN : Box (nameB s = (decide (0 < s.length) && (decide (s.length ≤ 32) && nmTo s s.length))) := ⟨nameB_eq s⟩
 have HLT := Lib.hid (fun c W => letter48_any c W)
 generalize nameB s = out at *
 have HSU : Hid (∀ k, nmTo s (k + 1) = (nmTo s k && nmAt s k)) := Lib.hid (nmTo_succ s)
 have HAT : Hid (∀ k, nmAt s k = (ltr (s[k]?.getD 0) || (decide (k ≠ 0) && sgnB (s[k]?.getD 0)))) := Lib.hid (fun k => rfl)
 have HST : Hid (∀ k, k < s.length → nmAt s k = false → nmTo s s.length = false) := Lib.hid (fun k hk hf => by
  cases h : nmTo s s.length with
  | false => rfl
  | true => rw [nmTo_all.1 h k hk] at hf; cases hf)
 go_enter Tryz.func42, Tryz.ntmps42
 go_wp2
 go_loop [3] (fun i => ∃ k : Nat, k ≤ s.length ∧ i = .int .i64 k ∧ Box (nmTo s k = true)) (fun i => s.length - (intOf i).toNat)
 case atStart => exact ⟨0, Nat.zero_le _, rfl, ⟨rfl⟩⟩
 case round =>
  obtain ⟨k, hk, rfl, HK⟩ := hrel
  by_cases hlt : k < s.length
  ·have hx := ba_at s k
   have HA := Lib.hid (HAT.out k)
   have HS1 := Lib.hid (HSU.out k)
   have HS2 := Lib.hid (HST.out k hlt)
   have HCK := Lib.hid (HLT.out (s[k]?.getD 0))
   have hsc := sgn_cases (s[k]?.getD 0)
   generalize s[k]?.getD 0 = c at *
   clear HSU HST HAT HLT
   cases hz : ltr c with
   | true =>
     have HNX : Box (nmTo s (k + 1) = true) := ⟨by rw [HS1.out, HK.out, HA.out, hz]; rfl⟩
     rw [hz] at HCK
     clear hz hsc
     go_wp2_with fail
     refine (HCK.out _).mono ?_
     rintro e w1 ⟨rfl, rfl⟩
     go_wp2
     go_round
     case rel => exact ⟨k + 1, by omega, by go_num, HNX⟩
     case measure => simp [intOf]; omega
   | false =>
     rw [hz] at HCK
     by_cases hk0 : k = 0
     ·subst hk0
      have HE : Box (out = false) := ⟨by rw [HN.out, HS2.out (by rw [HA.out, hz]; rfl)]; simp⟩
      clear hz hsc
      go_wp2_with fail
      refine (HCK.out _).mono ?_
      rintro e w1 ⟨rfl, rfl⟩
      go_wp2
      go_ret
      exact ⟨ret1 (congrArg Value.bool HE.out.symm), rfl⟩
     ·have hk0' : ((k : Int) == 0) = false := by rw [beq_eq_false_iff_ne]; omega
      have hk1 : ¬ (k : Int) = 0 := by omega
      rcases hsc with ⟨hsg, hsc⟩ | ⟨hsg, h1, h2, h3, h4⟩
      ·have HNX : Box (nmTo s (k + 1) = true) := ⟨by rw [HS1.out, HK.out, HA.out, hz, hsg, decide_eq_true hk0]; rfl⟩
       clear hz hsg
       rcases hsc with ⟨h1, h2⟩ | h1 | h1 | h1
       ·have g1 : ¬ (c.toNat : Int) < 48 := by omega
        have g2 : ¬ (57 : Int) < (c.toNat : Int) := by omega
        go_wp2_with fail
        refine (HCK.out _).mono ?_
        rintro e w1 ⟨rfl, rfl⟩
        go_wp2
        go_round
        case rel => exact ⟨k + 1, by omega, by go_num, HNX⟩
        case measure => simp [intOf]; omega
       ·have g1 : ¬ (c.toNat : Int) < 48 := by omega
        have g2 : (57 : Int) < (c.toNat : Int) := by omega
        have g3 : ((c.toNat : Int) != 95) = false := by rw [h1]; rfl
        clear h1
        go_wp2_with fail
        refine (HCK.out _).mono ?_
        rintro e w1 ⟨rfl, rfl⟩
        go_wp2
        go_round
        case rel => exact ⟨k + 1, by omega, by go_num, HNX⟩
        case measure => simp [intOf]; omega
       ·have g1 : (c.toNat : Int) < 48 := by omega
        have g2 : ((c.toNat : Int) != 95) = true := by rw [h1]; rfl
        have g3 : ((c.toNat : Int) != 35) = false := by rw [h1]; rfl
        clear h1
        go_wp2_with fail
        refine (HCK.out _).mono ?_
        rintro e w1 ⟨rfl, rfl⟩
        go_wp2
        go_round
        case rel => exact ⟨k + 1, by omega, by go_num, HNX⟩
        case measure => simp [intOf]; omega
       ·have g1 : (c.toNat : Int) < 48 := by omega
        have g2 : ((c.toNat : Int) != 95) = true := by rw [h1]; rfl
        have g3 : ((c.toNat : Int) != 35) = true := by rw [h1]; rfl
        have g4 : ((c.toNat : Int) != 39) = false := by rw [h1]; rfl
        clear h1
        go_wp2_with fail
        refine (HCK.out _).mono ?_
        rintro e w1 ⟨rfl, rfl⟩
        go_wp2
        go_round
        case rel => exact ⟨k + 1, by omega, by go_num, HNX⟩
        case measure => simp [intOf]; omega
      ·have HE : Box (out = false) := ⟨by rw [HN.out, HS2.out (by rw [HA.out, hz, hsg, Bool.and_false]; rfl)]; simp⟩
       clear hz hsg
       have e2 : ((c.toNat : Int) != 95) = true := by rw [bne_iff_ne]; omega
       have e3 : ((c.toNat : Int) != 35) = true := by rw [bne_iff_ne]; omega
       have e4 : ((c.toNat : Int) != 39) = true := by rw [bne_iff_ne]; omega
       by_cases h48 : c.toNat < 48
       ·have g1 : (c.toNat : Int) < 48 := by omega
        go_wp2_with fail
        refine (HCK.out _).mono ?_
        rintro e w1 ⟨rfl, rfl⟩
        go_wp2
        go_ret
        exact ⟨ret1 (congrArg Value.bool HE.out.symm), rfl⟩
       ·have g1 : ¬ (c.toNat : Int) < 48 := by omega
        have g2 : (57 : Int) < (c.toNat : Int) := by omega
        go_wp2_with fail
        refine (HCK.out _).mono ?_
        rintro e w1 ⟨rfl, rfl⟩
        go_wp2
        go_ret
        exact ⟨ret1 (congrArg Value.bool HE.out.symm), rfl⟩
  ·obtain rfl : k = s.length := by omega
   have HE : Box (out = (decide (0 < s.length) && decide (s.length ≤ 32))) := ⟨by rw [HN.out, HK.out, Bool.and_true]⟩
   by_cases h0 : s = []
   ·subst h0
    have HE2 : Box (out = false) := ⟨HE.out⟩
    go_wp2
    go_ret
    exact ⟨ret1 (congrArg Value.bool HE2.out.symm), rfl⟩
   ·have h0' : s.isEmpty = false := by cases s with | nil => exact absurd rfl h0 | cons _ _ => rfl
    have hpos : 0 < s.length := List.length_pos_iff.2 h0
    by_cases h32 : s.length ≤ 32
    ·have HE2 : Box (out = true) := ⟨by rw [HE.out, decide_eq_true hpos, decide_eq_true h32]; rfl⟩
     have g1 : (s.length : Int) ≤ 32 := by omega
     go_wp2
     go_ret
     exact ⟨ret1 (congrArg Value.bool HE2.out.symm), rfl⟩
    ·have HE2 : Box (out = false) := ⟨by rw [HE.out, decide_eq_false h32, Bool.and_false]⟩
     have g1 : ¬ (s.length : Int) ≤ 32 := by omega
     go_wp2
     go_ret
     exact ⟨ret1 (congrArg Value.bool HE2.out.symm), rfl⟩
end Go.Proofs.YtaaeekahhhookaaGreatDoor
