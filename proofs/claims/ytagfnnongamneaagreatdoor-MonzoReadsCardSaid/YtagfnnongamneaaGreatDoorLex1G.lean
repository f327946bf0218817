/- lexer: the classes of bytes, and length. -/
import Derived.Test.YtagfnnongamneaaGreatDoorLex0G
namespace Go.Proofs.YtagfnnongamneaaGreatDoor
open Go.RowKit Go.Lib

theorem or32 (c : UInt8) : (c ||| 32).toNat = c.toNat ||| 32 := by rw [UInt8.toNat_or]; rfl

set_option maxRecDepth 100000 in
theorem bits_or32 : ∀ n : Nat, n < 256 → bits BinOp.or IntKind.u8 (n : Int) 32 = ((n ||| 32 : Nat) : Int) := by
  intro n hn
  have h : ∀ m : Fin 256, bits BinOp.or IntKind.u8 ((m.val : Nat) : Int) 32 = ((m.val ||| 32 : Nat) : Int) := by decide
  exact h ⟨n, hn⟩

theorem letter_any (c : UInt8) (w : World) : Calls Tryz.prog 87 #[.int .u8 c.toNat] w fun e w' => e = .returned (.bool (letB c)) ∧ w = w' := by
  have HE : Box (letB c = (decide (97 ≤ c.toNat ||| 32) && decide (c.toNat ||| 32 ≤ 122))) := ⟨by unfold letB; rw [or32]⟩
  have hb : c.toNat ||| 32 < 256 := by rw [← or32]; exact UInt8.toNat_lt _
  have hbits := bits_or32 c.toNat (UInt8.toNat_lt c)
  generalize c.toNat ||| 32 = m at *
  generalize letB c = out at *
  by_cases h1 : 97 ≤ m
  · by_cases h2 : m ≤ 122
    · go_enter Tryz.func87, Tryz.ntmps87
      go_wp2
      go_ret
      exact ⟨ret1 (congrArg Value.bool (by first | (rw [HE.out]; simp [h1, h2]; done) | (rw [HE.out]; simp [h1, h2]; omega) | (rw [HE.out, decide_eq_true h1, Bool.true_and]; exact decide_eq_decide.2 (by omega)))), rfl⟩
    · go_enter Tryz.func87, Tryz.ntmps87
      go_wp2
      go_ret
      exact ⟨ret1 (congrArg Value.bool (by first | (rw [HE.out]; simp [h1, h2]; done) | (rw [HE.out]; simp [h1, h2]; omega) | (rw [HE.out, decide_eq_true h1, Bool.true_and]; exact decide_eq_decide.2 (by omega)))), rfl⟩
  · go_enter Tryz.func87, Tryz.ntmps87
    go_wp2
    go_ret
    exact ⟨ret1 (congrArg Value.bool (by rw [HE.out]; simp [h1])), rfl⟩

theorem digit_any (c : UInt8) (w : World) : Calls Tryz.prog 89 #[.int .u8 c.toNat] w fun e w' => e = .returned (.bool (digB c)) ∧ w = w' := by
  have HE : Box (digB c = (decide (48 ≤ c.toNat) && decide (c.toNat ≤ 57))) := ⟨by unfold digB; simp⟩
  generalize digB c = out at *
  by_cases h1 : 48 ≤ c.toNat
  · by_cases h2 : c.toNat ≤ 57
    · go_enter Tryz.func89, Tryz.ntmps89
      go_wp2
      go_ret
      exact ⟨ret1 (congrArg Value.bool (by first | (rw [HE.out]; simp [h1, h2]; done) | (rw [HE.out]; simp [h1, h2]; omega) | (rw [HE.out, decide_eq_true h1, Bool.true_and]; exact decide_eq_decide.2 (by omega)))), rfl⟩
    · go_enter Tryz.func89, Tryz.ntmps89
      go_wp2
      go_ret
      exact ⟨ret1 (congrArg Value.bool (by first | (rw [HE.out]; simp [h1, h2]; done) | (rw [HE.out]; simp [h1, h2]; omega) | (rw [HE.out, decide_eq_true h1, Bool.true_and]; exact decide_eq_decide.2 (by omega)))), rfl⟩
  · go_enter Tryz.func89, Tryz.ntmps89
    go_wp2
    go_ret
    exact ⟨ret1 (congrArg Value.bool (by rw [HE.out]; simp [h1])), rfl⟩

theorem u8_beq (c : UInt8) (n : Nat) (h : n < 256) : (c == UInt8.ofNat n) = decide (c.toNat = n) := by
  by_cases hc : c = UInt8.ofNat n
  · subst hc
    rw [decide_eq_true (by rw [UInt8.toNat_ofNat']; omega)]
    simp
  · rw [decide_eq_false (fun hh => hc (by rw [← hh]; simp)), beq_eq_false_iff_ne]
    exact hc

theorem part_any (c : UInt8) (w : World) : Calls Tryz.prog 149 #[.int .u8 c.toNat] w fun e w' => e = .returned (.bool (partB c)) ∧ w = w' := by
  have HE : Box (partB c = (letB c || digB c || decide (c.toNat = 95) || decide (c.toNat = 35) || decide (c.toNat = 39))) := ⟨by
    unfold partB
    rw [show (95 : UInt8) = UInt8.ofNat 95 from rfl, show (35 : UInt8) = UInt8.ofNat 35 from rfl, show (39 : UInt8) = UInt8.ofNat 39 from rfl, u8_beq _ _ (by omega), u8_beq _ _ (by omega), u8_beq _ _ (by omega)]⟩
  have HL := Lib.hid (fun W => letter_any c W)
  have HD := Lib.hid (fun W => digit_any c W)
  generalize partB c = out at *
  cases hl : letB c with
  | true =>
    rw [hl] at HL HE
    go_enter Tryz.func149, Tryz.ntmps149
    go_wp2_with fail
    refine (HL.out _).mono ?_
    rintro e w1 ⟨rfl, rfl⟩
    go_wp2_with fail
    go_ret
    exact ⟨ret1 (congrArg Value.bool (by rw [HE.out]; rfl)), rfl⟩
  | false =>
    rw [hl] at HL HE
    cases hd : digB c with
    | true =>
      rw [hd] at HD HE
      go_enter Tryz.func149, Tryz.ntmps149
      go_wp2_with fail
      refine (HL.out _).mono ?_
      rintro e w1 ⟨rfl, rfl⟩
      go_wp2_with fail
      refine (HD.out _).mono ?_
      rintro e w1 ⟨rfl, rfl⟩
      go_wp2_with fail
      go_ret
      exact ⟨ret1 (congrArg Value.bool (by rw [HE.out]; rfl)), rfl⟩
    | false =>
      rw [hd] at HD HE
      by_cases h1 : c.toNat = 95
      · have e1 : ((c.toNat : Int) == 95) = true := by rw [h1]; rfl
        have H1 : Box (c.toNat = 95) := ⟨h1⟩
        clear h1
        go_enter Tryz.func149, Tryz.ntmps149
        go_wp2_with fail
        refine (HL.out _).mono ?_
        rintro e w1 ⟨rfl, rfl⟩
        go_wp2_with fail
        refine (HD.out _).mono ?_
        rintro e w1 ⟨rfl, rfl⟩
        go_wp2_with fail
        go_ret
        exact ⟨ret1 (congrArg Value.bool (by rw [HE.out]; have hh := H1.out; simp [hh])), rfl⟩
      by_cases h2 : c.toNat = 35
      · have e2 : ((c.toNat : Int) == 35) = true := by rw [h2]; rfl
        have H2 : Box (c.toNat = 35) := ⟨h2⟩
        clear h2
        go_enter Tryz.func149, Tryz.ntmps149
        go_wp2_with fail
        refine (HL.out _).mono ?_
        rintro e w1 ⟨rfl, rfl⟩
        go_wp2_with fail
        refine (HD.out _).mono ?_
        rintro e w1 ⟨rfl, rfl⟩
        go_wp2_with fail
        go_ret
        exact ⟨ret1 (congrArg Value.bool (by rw [HE.out]; have hh := H2.out; simp [hh])), rfl⟩
      by_cases h3 : c.toNat = 39
      · have e3 : ((c.toNat : Int) == 39) = true := by rw [h3]; rfl
        have H3 : Box (c.toNat = 39) := ⟨h3⟩
        clear h3
        go_enter Tryz.func149, Tryz.ntmps149
        go_wp2_with fail
        refine (HL.out _).mono ?_
        rintro e w1 ⟨rfl, rfl⟩
        go_wp2_with fail
        refine (HD.out _).mono ?_
        rintro e w1 ⟨rfl, rfl⟩
        go_wp2_with fail
        go_ret
        exact ⟨ret1 (congrArg Value.bool (by rw [HE.out]; have hh := H3.out; simp [hh])), rfl⟩
      go_enter Tryz.func149, Tryz.ntmps149
      go_wp2_with fail
      refine (HL.out _).mono ?_
      rintro e w1 ⟨rfl, rfl⟩
      go_wp2_with fail
      refine (HD.out _).mono ?_
      rintro e w1 ⟨rfl, rfl⟩
      go_wp2_with fail
      go_ret
      exact ⟨ret1 (congrArg Value.bool (by rw [HE.out]; simp [h1, h2, h3]; omega)), rfl⟩

theorem numc_any (c : UInt8) (w : World) : Calls Tryz.prog 150 #[.int .u8 c.toNat] w fun e w' => e = .returned (.bool (numB c)) ∧ w = w' := by
  have HE : Box (numB c = (digB c || decide (c.toNat = 46) || decide (c.toNat = 47))) := ⟨by
    unfold numB
    rw [show (46 : UInt8) = UInt8.ofNat 46 from rfl, show (47 : UInt8) = UInt8.ofNat 47 from rfl, u8_beq _ _ (by omega), u8_beq _ _ (by omega)]⟩
  have HD := Lib.hid (fun W => digit_any c W)
  generalize numB c = out at *
  cases hd : digB c with
  | true =>
    rw [hd] at HD HE
    go_enter Tryz.func150, Tryz.ntmps150
    go_wp2_with fail
    refine (HD.out _).mono ?_
    rintro e w1 ⟨rfl, rfl⟩
    go_wp2_with fail
    go_ret
    exact ⟨ret1 (congrArg Value.bool (by rw [HE.out]; rfl)), rfl⟩
  | false =>
    rw [hd] at HD HE
    by_cases h1 : c.toNat = 46
    · have e1 : ((c.toNat : Int) == 46) = true := by rw [h1]; rfl
      have H1 : Box (c.toNat = 46) := ⟨h1⟩
      clear h1
      go_enter Tryz.func150, Tryz.ntmps150
      go_wp2_with fail
      refine (HD.out _).mono ?_
      rintro e w1 ⟨rfl, rfl⟩
      go_wp2_with fail
      go_ret
      exact ⟨ret1 (congrArg Value.bool (by rw [HE.out]; have hh := H1.out; simp [hh])), rfl⟩
    by_cases h2 : c.toNat = 47
    · have e2 : ((c.toNat : Int) == 47) = true := by rw [h2]; rfl
      have H2 : Box (c.toNat = 47) := ⟨h2⟩
      clear h2
      go_enter Tryz.func150, Tryz.ntmps150
      go_wp2_with fail
      refine (HD.out _).mono ?_
      rintro e w1 ⟨rfl, rfl⟩
      go_wp2_with fail
      go_ret
      exact ⟨ret1 (congrArg Value.bool (by rw [HE.out]; have hh := H2.out; simp [hh])), rfl⟩
    go_enter Tryz.func150, Tryz.ntmps150
    go_wp2_with fail
    refine (HD.out _).mono ?_
    rintro e w1 ⟨rfl, rfl⟩
    go_wp2_with fail
    go_ret
    exact ⟨ret1 (congrArg Value.bool (by first | (rw [HE.out]; simp [h1, h2]; done) | (rw [HE.out]; simp [h1, h2]; omega))), rfl⟩

theorem runLen_drop (p : UInt8 → Bool) (s : List UInt8) (k : Nat) (h : k < s.length) : runLen p (s.drop k) = if p (s[k]?.getD 0) then runLen p (s.drop (k + 1)) + 1 else 0 := by
  rw [List.drop_eq_getElem_cons h, runLen, List.getElem?_eq_getElem h]; rfl

set_option maxRecDepth 100000 in
set_option maxHeartbeats 1000000 in
theorem length_part (s : List UInt8) (w : World) (hl : s.length ≤ 1000000) :
    Calls Tryz.prog 148 #[.string ⟨s.toArray⟩, .func (.func 149) #[] #[]] w fun e w' => e = .returned (.int .i64 (runLen partB s : Nat)) ∧ w = w' := by
  have HD := Lib.hid (runLen_drop partB s)
  have HE : Box (runLen partB (s.drop s.length) = 0) := ⟨by rw [List.drop_length]; rfl⟩
  have H0 : Box (runLen partB s = 0 + runLen partB (s.drop 0)) := ⟨by rw [List.drop_zero]; omega⟩
  generalize runLen partB s = out at *
  go_enter Tryz.func148, Tryz.ntmps148
  go_wp2_with fail
  go_loop [5, 8] (fun _ i => ∃ k : Nat, k ≤ s.length ∧ i = .int .i64 k ∧ Box (out = k + runLen partB (s.drop k))) (fun _ i => s.length - (intOf i).toNat)
  case atStart => exact ⟨0, Nat.zero_le _, rfl, H0⟩
  case round =>
    obtain ⟨k, hk, rfl, HO⟩ := hrel
    by_cases hlt : k < s.length
    · have hx := ba_at s k
      have HD2 := Lib.hid (HD.out k hlt)
      generalize s[k]?.getD 0 = c at *
      have HC := Lib.hid (fun W => part_any c W)
      cases hp : partB c with
      | false =>
        rw [hp] at HC HD2
        go_wp2_with fail
        refine (HC.out _).mono ?_
        rintro e w1 ⟨rfl, rfl⟩
        go_wp2_with fail
        go_ret
        exact ⟨ret1 (congrArg (Value.int .i64) (by have h1 := HO.out; have h2 := HD2.out; simp at h2; omega)), rfl⟩
      | true =>
        rw [hp] at HC HD2
        go_wp2_with fail
        refine (HC.out _).mono ?_
        rintro e w1 ⟨rfl, rfl⟩
        go_wp2_with fail
        go_round
        case rel => exact ⟨k + 1, by omega, by go_num, ⟨by have h1 := HO.out; have h2 := HD2.out; simp at h2; omega⟩⟩
        case measure => simp [intOf]; omega
    · obtain rfl : k = s.length := by omega
      go_wp2_with fail
      go_ret
      exact ⟨ret1 (congrArg (Value.int .i64) (by have h1 := HO.out; have h2 := HE.out; omega)), rfl⟩

set_option maxRecDepth 100000 in
set_option maxHeartbeats 1000000 in
theorem length_numc (s : List UInt8) (w : World) (hl : s.length ≤ 1000000) :
    Calls Tryz.prog 148 #[.string ⟨s.toArray⟩, .func (.func 150) #[] #[]] w fun e w' => e = .returned (.int .i64 (runLen numB s : Nat)) ∧ w = w' := by
  have HD := Lib.hid (runLen_drop numB s)
  have HE : Box (runLen numB (s.drop s.length) = 0) := ⟨by rw [List.drop_length]; rfl⟩
  have H0 : Box (runLen numB s = 0 + runLen numB (s.drop 0)) := ⟨by rw [List.drop_zero]; omega⟩
  generalize runLen numB s = out at *
  go_enter Tryz.func148, Tryz.ntmps148
  go_wp2_with fail
  go_loop [5, 8] (fun _ i => ∃ k : Nat, k ≤ s.length ∧ i = .int .i64 k ∧ Box (out = k + runLen numB (s.drop k))) (fun _ i => s.length - (intOf i).toNat)
  case atStart => exact ⟨0, Nat.zero_le _, rfl, H0⟩
  case round =>
    obtain ⟨k, hk, rfl, HO⟩ := hrel
    by_cases hlt : k < s.length
    · have hx := ba_at s k
      have HD2 := Lib.hid (HD.out k hlt)
      generalize s[k]?.getD 0 = c at *
      have HC := Lib.hid (fun W => numc_any c W)
      cases hp : numB c with
      | false =>
        rw [hp] at HC HD2
        go_wp2_with fail
        refine (HC.out _).mono ?_
        rintro e w1 ⟨rfl, rfl⟩
        go_wp2_with fail
        go_ret
        exact ⟨ret1 (congrArg (Value.int .i64) (by have h1 := HO.out; have h2 := HD2.out; simp at h2; omega)), rfl⟩
      | true =>
        rw [hp] at HC HD2
        go_wp2_with fail
        refine (HC.out _).mono ?_
        rintro e w1 ⟨rfl, rfl⟩
        go_wp2_with fail
        go_round
        case rel => exact ⟨k + 1, by omega, by go_num, ⟨by have h1 := HO.out; have h2 := HD2.out; simp at h2; omega⟩⟩
        case measure => simp [intOf]; omega
    · obtain rfl : k = s.length := by omega
      go_wp2_with fail
      go_ret
      exact ⟨ret1 (congrArg (Value.int .i64) (by have h1 := HO.out; have h2 := HE.out; omega)), rfl⟩

end Go.Proofs.YtagfnnongamneaaGreatDoor
