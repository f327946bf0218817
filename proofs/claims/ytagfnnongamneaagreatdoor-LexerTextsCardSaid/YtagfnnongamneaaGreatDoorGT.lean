/- schismalaw47: the classes of bytes, and run. schismalaw47.token. schismalaw47.token: words. schismalaw47.token: marks, and what is no token. schismalaw47.token: numbers. schismalaw47.token: brackets. schismalaw47.token: the whole contract. schismalaw47.scan. -/
import Derived.Test.YtagfnnongamneaaGreatDoorGL
import Derived.Test.YtagfnnongamneaaGreatDoorGS
namespace Go.Proofs.YtagfnnongamneaaGreatDoor
open Go.RowKit Go.Lib

set_option maxRecDepth 100000 in
theorem letB_two (c : UInt8) : letB c = ((decide (97 ≤ c.toNat) && decide (c.toNat ≤ 122)) || (decide (65 ≤ c.toNat) && decide (c.toNat ≤ 90))) := by
  have h : ∀ m : Fin 256, (decide (97 ≤ (m.val ||| 32)) && decide ((m.val ||| 32) ≤ 122)) = ((decide (97 ≤ m.val) && decide (m.val ≤ 122)) || (decide (65 ≤ m.val) && decide (m.val ≤ 90))) := by decide
  have h2 := h ⟨c.toNat, UInt8.toNat_lt c⟩
  unfold letB
  rw [or32]
  exact h2

theorem letter47_any (c : UInt8) (w : World) : Calls Tryz.prog 93 #[.int .u8 c.toNat] w fun e w' => e = .returned (.bool (letB c)) ∧ w = w' := by
  have HE : Box (letB c = ((decide (97 ≤ c.toNat) && decide (c.toNat ≤ 122)) || (decide (65 ≤ c.toNat) && decide (c.toNat ≤ 90)))) := ⟨letB_two c⟩
  have hb := UInt8.toNat_lt c
  generalize letB c = out at *
  generalize c.toNat = m at *
  go_enter Tryz.func93, Tryz.ntmps93
  go_wp2
  all_goals go_ret
  all_goals exact ⟨ret1 (congrArg Value.bool (by rw [HE.out, Bool.eq_iff_iff]; simp only [Bool.or_eq_true, Bool.and_eq_true, decide_eq_true_eq, Bool.false_eq_true, true_iff, false_iff, eq_self]; omega)), rfl⟩

theorem digit47_any (c : UInt8) (w : World) : Calls Tryz.prog 96 #[.int .u8 c.toNat] w fun e w' => e = .returned (.bool (digB c)) ∧ w = w' := by
  have HE : Box (digB c = (decide (48 ≤ c.toNat) && decide (c.toNat ≤ 57))) := ⟨by unfold digB; simp⟩
  generalize digB c = out at *
  by_cases h1 : 48 ≤ c.toNat
  · by_cases h2 : c.toNat ≤ 57
    · go_enter Tryz.func96, Tryz.ntmps96
      go_wp2
      go_ret
      exact ⟨ret1 (congrArg Value.bool (by first | (rw [HE.out]; simp [h1, h2]; done) | (rw [HE.out]; simp [h1, h2]; omega) | (rw [HE.out, decide_eq_true h1, Bool.true_and]; exact decide_eq_decide.2 (by omega)))), rfl⟩
    · go_enter Tryz.func96, Tryz.ntmps96
      go_wp2
      go_ret
      exact ⟨ret1 (congrArg Value.bool (by first | (rw [HE.out]; simp [h1, h2]; done) | (rw [HE.out]; simp [h1, h2]; omega) | (rw [HE.out, decide_eq_true h1, Bool.true_and]; exact decide_eq_decide.2 (by omega)))), rfl⟩
  · go_enter Tryz.func96, Tryz.ntmps96
    go_wp2
    go_ret
    exact ⟨ret1 (congrArg Value.bool (by rw [HE.out]; simp [h1])), rfl⟩

theorem part47_any (c : UInt8) (w : World) : Calls Tryz.prog 95 #[.int .u8 c.toNat] w fun e w' => e = .returned (.bool (partB c)) ∧ w = w' := by
  have HE : Box (partB c = (letB c || digB c || decide (c.toNat = 95) || decide (c.toNat = 35) || decide (c.toNat = 39))) := ⟨by
    unfold partB
    rw [show (95 : UInt8) = UInt8.ofNat 95 from rfl, show (35 : UInt8) = UInt8.ofNat 35 from rfl, show (39 : UInt8) = UInt8.ofNat 39 from rfl, u8_beq _ _ (by omega), u8_beq _ _ (by omega), u8_beq _ _ (by omega)]⟩
  have HL := Lib.hid (fun W => letter47_any c W)
  have HD := Lib.hid (fun W => digit47_any c W)
  generalize partB c = out at *
  cases hl : letB c with
  | true =>
    rw [hl] at HL HE
    go_enter Tryz.func95, Tryz.ntmps95
    go_wp2_with fail
    refine (HL.out _).mono ?_
    rintro e w1 ⟨rfl, rfl⟩
    go_wp2_with fail
    go_ret
    exact ⟨ret1 (congrArg Value.bool (by rw [HE.out]; rfl)), rfl⟩
  | false =>
    rw [hl] at HL HE
    cases hd : digB c with
    | true =>
      rw [hd] at HD HE
      go_enter Tryz.func95, Tryz.ntmps95
      go_wp2_with fail
      refine (HL.out _).mono ?_
      rintro e w1 ⟨rfl, rfl⟩
      go_wp2_with fail
      refine (HD.out _).mono ?_
      rintro e w1 ⟨rfl, rfl⟩
      go_wp2_with fail
      go_ret
      exact ⟨ret1 (congrArg Value.bool (by rw [HE.out]; rfl)), rfl⟩
    | false =>
      rw [hd] at HD HE
      by_cases h1 : c.toNat = 95
      · have e1 : ((c.toNat : Int) == 95) = true := by rw [h1]; rfl
        have H1 : Box (c.toNat = 95) := ⟨h1⟩
        clear h1
        go_enter Tryz.func95, Tryz.ntmps95
        go_wp2_with fail
        refine (HL.out _).mono ?_
        rintro e w1 ⟨rfl, rfl⟩
        go_wp2_with fail
        refine (HD.out _).mono ?_
        rintro e w1 ⟨rfl, rfl⟩
        go_wp2_with fail
        go_ret
        exact ⟨ret1 (congrArg Value.bool (by rw [HE.out]; have hh := H1.out; simp [hh])), rfl⟩
      by_cases h2 : c.toNat = 35
      · have e2 : ((c.toNat : Int) == 35) = true := by rw [h2]; rfl
        have H2 : Box (c.toNat = 35) := ⟨h2⟩
        clear h2
        go_enter Tryz.func95, Tryz.ntmps95
        go_wp2_with fail
        refine (HL.out _).mono ?_
        rintro e w1 ⟨rfl, rfl⟩
        go_wp2_with fail
        refine (HD.out _).mono ?_
        rintro e w1 ⟨rfl, rfl⟩
        go_wp2_with fail
        go_ret
        exact ⟨ret1 (congrArg Value.bool (by rw [HE.out]; have hh := H2.out; simp [hh])), rfl⟩
      by_cases h3 : c.toNat = 39
      · have e3 : ((c.toNat : Int) == 39) = true := by rw [h3]; rfl
        have H3 : Box (c.toNat = 39) := ⟨h3⟩
        clear h3
        go_enter Tryz.func95, Tryz.ntmps95
        go_wp2_with fail
        refine (HL.out _).mono ?_
        rintro e w1 ⟨rfl, rfl⟩
        go_wp2_with fail
        refine (HD.out _).mono ?_
        rintro e w1 ⟨rfl, rfl⟩
        go_wp2_with fail
        go_ret
        exact ⟨ret1 (congrArg Value.bool (by rw [HE.out]; have hh := H3.out; simp [hh])), rfl⟩
      go_enter Tryz.func95, Tryz.ntmps95
      go_wp2_with fail
      refine (HL.out _).mono ?_
      rintro e w1 ⟨rfl, rfl⟩
      go_wp2_with fail
      refine (HD.out _).mono ?_
      rintro e w1 ⟨rfl, rfl⟩
      go_wp2_with fail
      go_ret
      exact ⟨ret1 (congrArg Value.bool (by rw [HE.out]; simp [h1, h2, h3]; omega)), rfl⟩

theorem numc47_any (c : UInt8) (w : World) : Calls Tryz.prog 97 #[.int .u8 c.toNat] w fun e w' => e = .returned (.bool (numB c)) ∧ w = w' := by
  have HE : Box (numB c = (digB c || decide (c.toNat = 46) || decide (c.toNat = 47))) := ⟨by
    unfold numB
    rw [show (46 : UInt8) = UInt8.ofNat 46 from rfl, show (47 : UInt8) = UInt8.ofNat 47 from rfl, u8_beq _ _ (by omega), u8_beq _ _ (by omega)]⟩
  have HD := Lib.hid (fun W => digit47_any c W)
  generalize numB c = out at *
  cases hd : digB c with
  | true =>
    rw [hd] at HD HE
    go_enter Tryz.func97, Tryz.ntmps97
    go_wp2_with fail
    refine (HD.out _).mono ?_
    rintro e w1 ⟨rfl, rfl⟩
    go_wp2_with fail
    go_ret
    exact ⟨ret1 (congrArg Value.bool (by rw [HE.out]; rfl)), rfl⟩
  | false =>
    rw [hd] at HD HE
    by_cases h1 : c.toNat = 46
    · have e1 : ((c.toNat : Int) == 46) = true := by rw [h1]; rfl
      have H1 : Box (c.toNat = 46) := ⟨h1⟩
      clear h1
      go_enter Tryz.func97, Tryz.ntmps97
      go_wp2_with fail
      refine (HD.out _).mono ?_
      rintro e w1 ⟨rfl, rfl⟩
      go_wp2_with fail
      go_ret
      exact ⟨ret1 (congrArg Value.bool (by rw [HE.out]; have hh := H1.out; simp [hh])), rfl⟩
    by_cases h2 : c.toNat = 47
    · have e2 : ((c.toNat : Int) == 47) = true := by rw [h2]; rfl
      have H2 : Box (c.toNat = 47) := ⟨h2⟩
      clear h2
      go_enter Tryz.func97, Tryz.ntmps97
      go_wp2_with fail
      refine (HD.out _).mono ?_
      rintro e w1 ⟨rfl, rfl⟩
      go_wp2_with fail
      go_ret
      exact ⟨ret1 (congrArg Value.bool (by rw [HE.out]; have hh := H2.out; simp [hh])), rfl⟩
    go_enter Tryz.func97, Tryz.ntmps97
    go_wp2_with fail
    refine (HD.out _).mono ?_
    rintro e w1 ⟨rfl, rfl⟩
    go_wp2_with fail
    go_ret
    exact ⟨ret1 (congrArg Value.bool (by first | (rw [HE.out]; simp [h1, h2]; done) | (rw [HE.out]; simp [h1, h2]; omega))), rfl⟩

set_option maxRecDepth 100000 in
set_option maxHeartbeats 1000000 in
theorem run_part (s : List UInt8) (at_ : Nat) (w : World) (hl : s.length ≤ 1000000) (ha : at_ ≤ s.length) :
    Calls Tryz.prog 94 #[.string ⟨s.toArray⟩, .int .i64 at_, .func (.func 95) #[] #[]] w fun e w' => e = .returned (.int .i64 (runLen partB (s.drop at_) : Nat)) ∧ w = w' := by
  have HD := Lib.hid (runLen_drop partB s)
  have HE : Box (runLen partB (s.drop s.length) = 0) := ⟨by rw [List.drop_length]; rfl⟩
  have H0 : Box (∀ q, runLen partB (s.drop at_) = q → q + at_ = at_ + runLen partB (s.drop at_)) := ⟨fun q h => by omega⟩
  generalize hq : runLen partB (s.drop at_) = out
  replace H0 : Box (out + at_ = at_ + runLen partB (s.drop at_)) := ⟨H0.out out hq⟩
  clear hq
  go_enter Tryz.func94, Tryz.ntmps94
  go_wp2_with fail
  go_loop [7] (fun i => ∃ k : Nat, at_ ≤ k ∧ k ≤ s.length ∧ i = .int .i64 k ∧ Box (out + at_ = k + runLen partB (s.drop k))) (fun i => s.length - (intOf i).toNat)
  case atStart => exact ⟨at_, Nat.le_refl _, ha, rfl, H0⟩
  case round =>
    obtain ⟨k, hk0, hk, rfl, HO⟩ := hrel
    by_cases hlt : k < s.length
    · have hx := ba_at s k
      have HD2 := Lib.hid (HD.out k hlt)
      generalize s[k]?.getD 0 = c at *
      have HC := Lib.hid (fun W => part47_any c W)
      cases hp : partB c with
      | false =>
        rw [hp] at HC HD2
        have hout : out = k - at_ := by have h1 := HO.out; have h2 := HD2.out; simp at h2; omega
        go_wp2_with fail
        refine (HC.out _).mono ?_
        rintro e w1 ⟨rfl, rfl⟩
        go_wp2_with fail
        go_ret
        exact ⟨ret1 (congrArg (Value.int .i64) (by omega)), rfl⟩
      | true =>
        rw [hp] at HC HD2
        go_wp2_with fail
        refine (HC.out _).mono ?_
        rintro e w1 ⟨rfl, rfl⟩
        go_wp2_with fail
        go_round
        case rel => exact ⟨k + 1, by omega, by omega, by go_num, ⟨by have h1 := HO.out; have h2 := HD2.out; simp at h2; omega⟩⟩
        case measure => simp [intOf]; omega
    · obtain rfl : k = s.length := by omega
      have hout : out = s.length - at_ := by have h1 := HO.out; have h2 := HE.out; omega
      go_wp2_with fail
      go_ret
      exact ⟨ret1 (congrArg (Value.int .i64) (by omega)), rfl⟩

set_option maxRecDepth 100000 in
set_option maxHeartbeats 1000000 in
theorem run_numc (s : List UInt8) (at_ : Nat) (w : World) (hl : s.length ≤ 1000000) (ha : at_ ≤ s.length) :
    Calls Tryz.prog 94 #[.string ⟨s.toArray⟩, .int .i64 at_, .func (.func 97) #[] #[]] w fun e w' => e = .returned (.int .i64 (runLen numB (s.drop at_) : Nat)) ∧ w = w' := by
  have HD := Lib.hid (runLen_drop numB s)
  have HE : Box (runLen numB (s.drop s.length) = 0) := ⟨by rw [List.drop_length]; rfl⟩
  have H0 : Box (∀ q, runLen numB (s.drop at_) = q → q + at_ = at_ + runLen numB (s.drop at_)) := ⟨fun q h => by omega⟩
  generalize hq : runLen numB (s.drop at_) = out
  replace H0 : Box (out + at_ = at_ + runLen numB (s.drop at_)) := ⟨H0.out out hq⟩
  clear hq
  go_enter Tryz.func94, Tryz.ntmps94
  go_wp2_with fail
  go_loop [7] (fun i => ∃ k : Nat, at_ ≤ k ∧ k ≤ s.length ∧ i = .int .i64 k ∧ Box (out + at_ = k + runLen numB (s.drop k))) (fun i => s.length - (intOf i).toNat)
  case atStart => exact ⟨at_, Nat.le_refl _, ha, rfl, H0⟩
  case round =>
    obtain ⟨k, hk0, hk, rfl, HO⟩ := hrel
    by_cases hlt : k < s.length
    · have hx := ba_at s k
      have HD2 := Lib.hid (HD.out k hlt)
      generalize s[k]?.getD 0 = c at *
      have HC := Lib.hid (fun W => numc47_any c W)
      cases hp : numB c with
      | false =>
        rw [hp] at HC HD2
        have hout : out = k - at_ := by have h1 := HO.out; have h2 := HD2.out; simp at h2; omega
        go_wp2_with fail
        refine (HC.out _).mono ?_
        rintro e w1 ⟨rfl, rfl⟩
        go_wp2_with fail
        go_ret
        exact ⟨ret1 (congrArg (Value.int .i64) (by omega)), rfl⟩
      | true =>
        rw [hp] at HC HD2
        go_wp2_with fail
        refine (HC.out _).mono ?_
        rintro e w1 ⟨rfl, rfl⟩
        go_wp2_with fail
        go_round
        case rel => exact ⟨k + 1, by omega, by omega, by go_num, ⟨by have h1 := HO.out; have h2 := HD2.out; simp at h2; omega⟩⟩
        case measure => simp [intOf]; omega
    · obtain rfl : k = s.length := by omega
      have hout : out = s.length - at_ := by have h1 := HO.out; have h2 := HE.out; omega
      go_wp2_with fail
      go_ret
      exact ⟨ret1 (congrArg (Value.int .i64) (by omega)), rfl⟩

end Go.Proofs.YtagfnnongamneaaGreatDoor

namespace Go.Proofs.YtagfnnongamneaaGreatDoor
open Go.RowKit Go.Lib

theorem ext_from (s : List UInt8) (k n : Nat) : (⟨s.toArray⟩ : ByteArray).extract k (k + n) = ⟨((s.drop k).take n).toArray⟩ := ba_ext (by rw [ext_eq, mk_toList, mk_toList, List.drop_take, Nat.add_sub_cancel_left])
theorem ext_rest (s : List UInt8) (k : Nat) : (⟨s.toArray⟩ : ByteArray).extract k s.length = ⟨(s.drop k).toArray⟩ := ba_ext (by rw [ext_eq, mk_toList, mk_toList, List.take_of_length_le (Nat.le_refl _)])
theorem drop_get (s : List UInt8) (k j : Nat) : (s.drop k)[j]? = s[k + j]? := by rw [List.getElem?_drop]

end Go.Proofs.YtagfnnongamneaaGreatDoor

namespace Go.Proofs.YtagfnnongamneaaGreatDoor
open Go.RowKit Go.Lib

set_option maxRecDepth 100000 in
set_option maxHeartbeats 4000000 in
theorem tok47_word (s : List UInt8) (k : Nat) (w : World) (hl : s.length ≤ 70000) (h0 : k < s.length) (h : letB (s[k]?.getD 0) = true) :
    Calls Tryz.prog 48 #[.string ⟨s.toArray⟩, .int .i64 k] w fun e w' => NextPost w' (wordRead (s.drop k)) e ∧ Below w.heap.size w w' := by
  have hx0 := ba_at s k
  have HL := Lib.hid (fun W => letter47_any (s[k]?.getD 0) W)
  rw [h] at HL
  have hq : (((s[k]?.getD 0).toNat : Int) == 45) = false := by
    rw [beq_eq_false_iff_ne]; intro hh
    rw [show s[k]?.getD 0 = 45 from UInt8.toNat_inj.1 (by show (s[k]?.getD 0).toNat = 45; omega)] at h
    cases h
  have HR := Lib.hid (fun W => run_part s k W (by omega) (by omega))
  have hle := runLen_le partB (s.drop k)
  rw [List.length_drop] at hle
  unfold wordRead
  have hx := ext_from s k (runLen partB (s.drop k))
  generalize runLen partB (s.drop k) = n at *
  generalize (s.drop k).take n = t at *
  clear h
  generalize s[k]?.getD 0 = c at *
  by_cases h : 32 < n
  · rw [if_pos h]
    go_enter Tryz.func48, Tryz.ntmps48
    go_wp2_with fail
    refine (HL.out _).mono ?_
    rintro e w1 ⟨rfl, rfl⟩
    go_wp2_with fail
    refine (HR.out _).mono ?_
    rintro e w1 ⟨rfl, rfl⟩
    go_wp2_with fail
    refine bodyPost_ret (v := .tuple #[.agg #[.int .i64 0, .string ⟨#[]⟩, .string ⟨#[]⟩, .string ⟨#[]⟩, .slice Option.none 0 0, .int .i64 0, .int .i64 0], .int .i64 0, .int .i64 8]) (by simp (maxDischargeDepth := 10) [results, Tryz.results48, go_sem]) rfl ⟨rfl, ?_⟩
    exact (Below.refl _ _).alloc (Nat.le_refl _) _
  · rw [if_neg h]
    go_enter Tryz.func48, Tryz.ntmps48
    go_wp2_with fail
    refine (HL.out _).mono ?_
    rintro e w1 ⟨rfl, rfl⟩
    go_wp2_with fail
    refine (HR.out _).mono ?_
    rintro e w1 ⟨rfl, rfl⟩
    go_wp2_with fail
    refine bodyPost_ret (v := .tuple #[.agg #[.int .i64 1, .string ⟨t.toArray⟩, .string ⟨#[]⟩, .string ⟨#[]⟩, .slice Option.none 0 0, .int .i64 0, .int .i64 0], .int .i64 n, .int .i64 0]) (by simp (maxDischargeDepth := 10) [results, Tryz.results48, go_sem]) rfl ⟨⟨.slice Option.none 0 0, rfl, TRow.nil _ _ _ (by unfold maxLen; omega)⟩, ?_⟩
    exact (Below.refl _ _).alloc (Nat.le_refl _) _

end Go.Proofs.YtagfnnongamneaaGreatDoor

namespace Go.Proofs.YtagfnnongamneaaGreatDoor
open Go.RowKit Go.Lib

set_option maxRecDepth 100000 in
set_option maxHeartbeats 4000000 in
theorem tok47_rest_a (s : List UInt8) (k : Nat) (w : World) (hl : s.length ≤ 70000) (h0 : k < s.length) (h1 : letB (s[k]?.getD 0) = false) (h2 : digB (s[k]?.getD 0) = false) (h3 : s[k]?.getD 0 ≠ 45) (h6 : s[k]?.getD 0 ≠ 91) (h7 : s[k]?.getD 0 ≠ 60) :
    Calls Tryz.prog 48 #[.string ⟨s.toArray⟩, .int .i64 k] w fun e w' => NextPost w' (if 0 ≤ Lib.indexByte marks (s[k]?.getD 0) then .good 5 ((s.drop k).take 1) [] [] [] 1 else .bad 15) e ∧ Below w.heap.size w w' := by
  have hx0 := ba_at s k
  have HL := Lib.hid (fun W => letter47_any (s[k]?.getD 0) W)
  rw [h1] at HL
  have HD := Lib.hid (fun W => digit47_any (s[k]?.getD 0) W)
  rw [h2] at HD
  have HI := Lib.hid (fun W => indexByte_any marks (s[k]?.getD 0) W)
  have hq : (((s[k]?.getD 0).toNat : Int) == 45) = false := by rw [beq_eq_false_iff_ne]; intro hh; exact h3 (UInt8.toNat_inj.1 (by show (s[k]?.getD 0).toNat = 45; omega))
  have hq2 : (((s[k]?.getD 0).toNat : Int) == 91) = false := by rw [beq_eq_false_iff_ne]; intro hh; exact h6 (UInt8.toNat_inj.1 (by show (s[k]?.getD 0).toNat = 91; omega))
  have hq3 : (((s[k]?.getD 0).toNat : Int) == 60) = false := by rw [beq_eq_false_iff_ne]; intro hh; exact h7 (UInt8.toNat_inj.1 (by show (s[k]?.getD 0).toNat = 60; omega))
  clear h1 h2 h3 h6 h7
  have hxt := ext_from s k 1
  have htl : ((s.drop k).take 1).length = 1 := by rw [List.length_take, List.length_drop]; omega
  rw [show marks = [40, 41, 123, 125, 58, 44, 61, 124, 64, 126, 42, 43] from rfl] at HI ⊢
  generalize Lib.indexByte [40, 41, 123, 125, 58, 44, 61, 124, 64, 126, 42, 43] (s[k]?.getD 0) = ix at *
  generalize (s.drop k).take 1 = t at *
  generalize s[k]?.getD 0 = c at *
  by_cases hix : 0 ≤ ix
  · rw [if_pos hix]
    go_enter Tryz.func48, Tryz.ntmps48
    go_wp2_with fail
    refine (HL.out _).mono ?_
    rintro e w1 ⟨rfl, rfl⟩
    go_wp2_with fail
    refine (HD.out _).mono ?_
    rintro e w1 ⟨rfl, rfl⟩
    go_wp2_with fail
    refine (HI.out _).mono ?_
    rintro e w1 ⟨rfl, rfl⟩
    go_wp2_with fail
    refine bodyPost_ret (v := .tuple #[.agg #[.int .i64 5, .string ⟨t.toArray⟩, .string ⟨#[]⟩, .string ⟨#[]⟩, .slice Option.none 0 0, .int .i64 0, .int .i64 0], .int .i64 1, .int .i64 0]) (by simp (maxDischargeDepth := 10) [results, Tryz.results48, go_sem]) rfl ⟨⟨.slice Option.none 0 0, rfl, TRow.nil _ _ _ (by unfold maxLen; omega)⟩, ?_⟩
    exact (Below.refl _ _).alloc (Nat.le_refl _) _
  · rw [if_neg hix]
    go_enter Tryz.func48, Tryz.ntmps48
    go_wp2_with fail
    refine (HL.out _).mono ?_
    rintro e w1 ⟨rfl, rfl⟩
    go_wp2_with fail
    refine (HD.out _).mono ?_
    rintro e w1 ⟨rfl, rfl⟩
    go_wp2_with fail
    refine (HI.out _).mono ?_
    rintro e w1 ⟨rfl, rfl⟩
    go_wp2_with fail
    refine bodyPost_ret (v := .tuple #[.agg #[.int .i64 0, .string ⟨#[]⟩, .string ⟨#[]⟩, .string ⟨#[]⟩, .slice Option.none 0 0, .int .i64 0, .int .i64 0], .int .i64 0, .int .i64 15]) (by simp (maxDischargeDepth := 10) [results, Tryz.results48, go_sem]) rfl ⟨rfl, ?_⟩
    exact (Below.refl _ _).alloc (Nat.le_refl _) _

set_option maxRecDepth 100000 in
set_option maxHeartbeats 4000000 in
theorem tok47_rest_b (s : List UInt8) (k : Nat) (w : World) (hl : s.length ≤ 70000) (h0 : k < s.length) (h3 : s[k]?.getD 0 = 45) (h4 : ¬ k + 1 < s.length) :
    Calls Tryz.prog 48 #[.string ⟨s.toArray⟩, .int .i64 k] w fun e w' => NextPost w' (if 0 ≤ Lib.indexByte marks (s[k]?.getD 0) then .good 5 ((s.drop k).take 1) [] [] [] 1 else .bad 15) e ∧ Below w.heap.size w w' := by
  have hx0 := ba_at s k
  have HL := Lib.hid (fun W => letter47_any (s[k]?.getD 0) W)
  rw [show letB (s[k]?.getD 0) = false by rw [h3]; rfl] at HL
  have HI := Lib.hid (fun W => indexByte_any marks (s[k]?.getD 0) W)
  have hq : (((s[k]?.getD 0).toNat : Int) == 45) = true := by rw [h3]; rfl
  have hq2 : (((s[k]?.getD 0).toNat : Int) == 91) = false := by rw [h3]; rfl
  have hq3 : (((s[k]?.getD 0).toNat : Int) == 60) = false := by rw [h3]; rfl
  clear h3
  have hxt := ext_from s k 1
  have htl : ((s.drop k).take 1).length = 1 := by rw [List.length_take, List.length_drop]; omega
  rw [show marks = [40, 41, 123, 125, 58, 44, 61, 124, 64, 126, 42, 43] from rfl] at HI ⊢
  generalize Lib.indexByte [40, 41, 123, 125, 58, 44, 61, 124, 64, 126, 42, 43] (s[k]?.getD 0) = ix at *
  generalize (s.drop k).take 1 = t at *
  generalize s[k]?.getD 0 = c at *
  by_cases hix : 0 ≤ ix
  · rw [if_pos hix]
    go_enter Tryz.func48, Tryz.ntmps48
    go_wp2_with fail
    refine (HL.out _).mono ?_
    rintro e w1 ⟨rfl, rfl⟩
    go_wp2_with fail
    refine (HI.out _).mono ?_
    rintro e w1 ⟨rfl, rfl⟩
    go_wp2_with fail
    refine bodyPost_ret (v := .tuple #[.agg #[.int .i64 5, .string ⟨t.toArray⟩, .string ⟨#[]⟩, .string ⟨#[]⟩, .slice Option.none 0 0, .int .i64 0, .int .i64 0], .int .i64 1, .int .i64 0]) (by simp (maxDischargeDepth := 10) [results, Tryz.results48, go_sem]) rfl ⟨⟨.slice Option.none 0 0, rfl, TRow.nil _ _ _ (by unfold maxLen; omega)⟩, ?_⟩
    exact (Below.refl _ _).alloc (Nat.le_refl _) _
  · rw [if_neg hix]
    go_enter Tryz.func48, Tryz.ntmps48
    go_wp2_with fail
    refine (HL.out _).mono ?_
    rintro e w1 ⟨rfl, rfl⟩
    go_wp2_with fail
    refine (HI.out _).mono ?_
    rintro e w1 ⟨rfl, rfl⟩
    go_wp2_with fail
    refine bodyPost_ret (v := .tuple #[.agg #[.int .i64 0, .string ⟨#[]⟩, .string ⟨#[]⟩, .string ⟨#[]⟩, .slice Option.none 0 0, .int .i64 0, .int .i64 0], .int .i64 0, .int .i64 15]) (by simp (maxDischargeDepth := 10) [results, Tryz.results48, go_sem]) rfl ⟨rfl, ?_⟩
    exact (Below.refl _ _).alloc (Nat.le_refl _) _

set_option maxRecDepth 100000 in
set_option maxHeartbeats 4000000 in
theorem tok47_rest_c (s : List UInt8) (k : Nat) (w : World) (hl : s.length ≤ 70000) (h0 : k < s.length) (h3 : s[k]?.getD 0 = 45) (h4 : k + 1 < s.length) (h5 : digB (s[k + 1]?.getD 0) = false) :
    Calls Tryz.prog 48 #[.string ⟨s.toArray⟩, .int .i64 k] w fun e w' => NextPost w' (if 0 ≤ Lib.indexByte marks (s[k]?.getD 0) then .good 5 ((s.drop k).take 1) [] [] [] 1 else .bad 15) e ∧ Below w.heap.size w w' := by
  have hx0 := ba_at s k
  have HL := Lib.hid (fun W => letter47_any (s[k]?.getD 0) W)
  rw [show letB (s[k]?.getD 0) = false by rw [h3]; rfl] at HL
  have hx1 := ba_at s (k + 1)
  have HD := Lib.hid (fun W => digit47_any (s[k + 1]?.getD 0) W)
  rw [h5] at HD
  have HI := Lib.hid (fun W => indexByte_any marks (s[k]?.getD 0) W)
  have hq : (((s[k]?.getD 0).toNat : Int) == 45) = true := by rw [h3]; rfl
  have hq2 : (((s[k]?.getD 0).toNat : Int) == 91) = false := by rw [h3]; rfl
  have hq3 : (((s[k]?.getD 0).toNat : Int) == 60) = false := by rw [h3]; rfl
  clear h3
  have hxt := ext_from s k 1
  have htl : ((s.drop k).take 1).length = 1 := by rw [List.length_take, List.length_drop]; omega
  rw [show marks = [40, 41, 123, 125, 58, 44, 61, 124, 64, 126, 42, 43] from rfl] at HI ⊢
  generalize Lib.indexByte [40, 41, 123, 125, 58, 44, 61, 124, 64, 126, 42, 43] (s[k]?.getD 0) = ix at *
  generalize (s.drop k).take 1 = t at *
  clear h5
  generalize s[k + 1]?.getD 0 = c1 at *
  generalize s[k]?.getD 0 = c at *
  by_cases hix : 0 ≤ ix
  · rw [if_pos hix]
    go_enter Tryz.func48, Tryz.ntmps48
    go_wp2_with fail
    refine (HL.out _).mono ?_
    rintro e w1 ⟨rfl, rfl⟩
    go_wp2_with fail
    refine (HD.out _).mono ?_
    rintro e w1 ⟨rfl, rfl⟩
    go_wp2_with fail
    refine (HI.out _).mono ?_
    rintro e w1 ⟨rfl, rfl⟩
    go_wp2_with fail
    refine bodyPost_ret (v := .tuple #[.agg #[.int .i64 5, .string ⟨t.toArray⟩, .string ⟨#[]⟩, .string ⟨#[]⟩, .slice Option.none 0 0, .int .i64 0, .int .i64 0], .int .i64 1, .int .i64 0]) (by simp (maxDischargeDepth := 10) [results, Tryz.results48, go_sem]) rfl ⟨⟨.slice Option.none 0 0, rfl, TRow.nil _ _ _ (by unfold maxLen; omega)⟩, ?_⟩
    exact (Below.refl _ _).alloc (Nat.le_refl _) _
  · rw [if_neg hix]
    go_enter Tryz.func48, Tryz.ntmps48
    go_wp2_with fail
    refine (HL.out _).mono ?_
    rintro e w1 ⟨rfl, rfl⟩
    go_wp2_with fail
    refine (HD.out _).mono ?_
    rintro e w1 ⟨rfl, rfl⟩
    go_wp2_with fail
    refine (HI.out _).mono ?_
    rintro e w1 ⟨rfl, rfl⟩
    go_wp2_with fail
    refine bodyPost_ret (v := .tuple #[.agg #[.int .i64 0, .string ⟨#[]⟩, .string ⟨#[]⟩, .string ⟨#[]⟩, .slice Option.none 0 0, .int .i64 0, .int .i64 0], .int .i64 0, .int .i64 15]) (by simp (maxDischargeDepth := 10) [results, Tryz.results48, go_sem]) rfl ⟨rfl, ?_⟩
    exact (Below.refl _ _).alloc (Nat.le_refl _) _

end Go.Proofs.YtagfnnongamneaaGreatDoor

namespace Go.Proofs.YtagfnnongamneaaGreatDoor
open Go.RowKit Go.Lib

set_option maxRecDepth 100000 in
set_option maxHeartbeats 4000000 in
theorem tok47_dig (s : List UInt8) (k : Nat) (w : World) (hS : Std w) (hl : s.length ≤ 70000) (h0 : k < s.length) (h1 : letB (s[k]?.getD 0) = false) (h2 : digB (s[k]?.getD 0) = true) :
    Calls Tryz.prog 48 #[.string ⟨s.toArray⟩, .int .i64 k] w fun e w' => NextPost w' (numRead (s.drop k)) e ∧ Below w.heap.size w w' := by
  have hx0 := ba_at s k
  have HL := Lib.hid (fun W => letter47_any (s[k]?.getD 0) W)
  rw [h1] at HL
  have HD := Lib.hid (fun W => digit47_any (s[k]?.getD 0) W)
  rw [h2] at HD
  have HR := Lib.hid (fun W => run_numc s (k) W (by omega) (by omega))
  have hle := runLen_le numB (s.drop (k))
  rw [List.length_drop] at hle
  have hq : (((s[k]?.getD 0).toNat : Int) == 45) = false := by
    rw [beq_eq_false_iff_ne]; intro hh
    unfold digB at h2
    have := of_decide_eq_true h2
    omega
  have HN : Box (numLen (s.drop k) = runLen numB (s.drop k)) := ⟨by
    rw [runLen_drop numB s k h0, if_pos (by unfold numB; rw [h2]; rfl), Nat.add_comm]
    unfold numLen; rw [List.drop_drop]⟩
  unfold numRead
  rw [HN.out]
  have hx := ext_from s k (runLen numB (s.drop (k)))
  clear HN
  generalize runLen numB (s.drop (k)) = n at *
  have HTL : Box (((s.drop k).take (n)).length ≤ 1000000) := ⟨by rw [List.length_take, List.length_drop]; omega⟩
  generalize (s.drop k).take (n) = t at *
  generalize s[k]?.getD 0 = c at *
  clear h1 h2
  have HP := Lib.hid (fun W hW => parse03_any t W hW (HTL.out))
  have HB : Box (∀ er, fracOf t = .bad er → er ≠ 0) := ⟨fun er h => fracOf_bad h⟩
  generalize isNeg t = b at *
  have HG : Box (∀ n d, fracOf t = .good n d → (itoa (lowN (sgnd b n) d)).length ≤ 1000 ∧ (itoa (lowD (sgnd b n) d)).length ≤ 1000) := ⟨fun n d h => by
    obtain ⟨h1, h2, h3⟩ := fracOf_good h
    have := low_len (n := sgnd b n) (d := (d : Int)) (k := 401) (by rw [sgnd_abs]; omega) (by rw [Int.natAbs_natCast]; omega)
    omega⟩
  have HS := Lib.hid hS
  clear hS HTL
  generalize fracOf t = fr at *
  cases fr with
  | bad er =>
    rw [frdOut_bad] at HP
    have her : (er != 0) = true := by have := HB.out er rfl; simpa using this
    go_enter Tryz.func48, Tryz.ntmps48
    go_wp2_with fail
    refine (HL.out _).mono ?_
    rintro e w1 ⟨rfl, rfl⟩
    go_wp2_with fail
    refine (HD.out _).mono ?_
    rintro e w1 ⟨rfl, rfl⟩
    go_wp2_with fail
    refine (HR.out _).mono ?_
    rintro e w1 ⟨rfl, rfl⟩
    go_wp2_with fail
    refine (HP.out _ (HS.out.alloc _)).mono ?_
    rintro e w2 ⟨rfl, hb1⟩
    rw [World.size_alloc] at hb1
    obtain ⟨⟨q0, q1, q2, q3, q4, q5, q6⟩, ⟨f0, f1, f2, f3, f4, f5, f6⟩, hsz⟩ := tok_below hb1
    have hbw2 := below_result hb1
    go_wp2_with fail
    refine bodyPost_ret (v := .tuple #[.agg #[.int .i64 0, .string ⟨#[]⟩, .string ⟨#[]⟩, .string ⟨#[]⟩, .slice Option.none 0 0, .int .i64 0, .int .i64 0], .int .i64 0, .int .i64 2]) (by simp (maxDischargeDepth := 10) [results, Tryz.results48, go_sem, q0, q1, q2, q3, q4, q5, q6, hsz]) rfl ⟨rfl, ?_⟩
    exact (below7 hbw2 _ _ _ _ _ _ _).alloc (by have := hbw2.size; simp; omega) _
  | good N D =>
    rw [frdOut_good] at HP
    rw [numTok_good]
    obtain ⟨hla, hlb⟩ := HG.out N D rfl
    generalize itoa (lowN (sgnd b N) D) = la at *
    generalize itoa (lowD (sgnd b N) D) = lb at *
    have HT := Lib.hid (fun W => text03_any la lb W (by omega) (by omega))
    generalize ratText la lb = lt at *
    go_enter Tryz.func48, Tryz.ntmps48
    go_wp2_with fail
    refine (HL.out _).mono ?_
    rintro e w1 ⟨rfl, rfl⟩
    go_wp2_with fail
    refine (HD.out _).mono ?_
    rintro e w1 ⟨rfl, rfl⟩
    go_wp2_with fail
    refine (HR.out _).mono ?_
    rintro e w1 ⟨rfl, rfl⟩
    go_wp2_with fail
    refine (HP.out _ (HS.out.alloc _)).mono ?_
    rintro e w2 ⟨rfl, hb1⟩
    rw [World.size_alloc] at hb1
    obtain ⟨⟨q0, q1, q2, q3, q4, q5, q6⟩, ⟨f0, f1, f2, f3, f4, f5, f6⟩, hsz⟩ := tok_below hb1
    have hbw2 := below_result hb1
    go_wp2_with fail
    have r0 : (w2.alloc (.cells #[.string ⟨la.toArray⟩, .string ⟨lb.toArray⟩] 39)).cell? ⟨w2.heap.size, 0, Option.none⟩ = some (.string ⟨la.toArray⟩) := by rw [World.cell?_alloc_new]; rfl
    have r1 : (w2.alloc (.cells #[.string ⟨la.toArray⟩, .string ⟨lb.toArray⟩] 39)).cell? ⟨w2.heap.size, 1, Option.none⟩ = some (.string ⟨lb.toArray⟩) := by rw [World.cell?_alloc_new]; rfl
    replace hb1 := hb1.alloc (by have := hb1.size; simp at this; omega) (.cells #[.string ⟨la.toArray⟩, .string ⟨lb.toArray⟩] 39)
    clear q0 q1 q2 q3 q4 q5 q6 f0 f1 f2 f3 f4 f5 f6
    generalize hWQ : w2.alloc (.cells #[.string ⟨la.toArray⟩, .string ⟨lb.toArray⟩] 39) = WQ at *
    have hne : w2.heap.size ≠ w.heap.size := by omega
    have hne2 : w.heap.size ≠ w2.heap.size := by omega
    clear hWQ hsz hbw2
    go_region_held3 (fun w' => w'.cell? ⟨w2.heap.size, 0, Option.none⟩ = some (.string ⟨la.toArray⟩) ∧ w'.cell? ⟨w2.heap.size, 1, Option.none⟩ = some (.string ⟨lb.toArray⟩))
      (first | go_keep | exact ⟨keep_drew r0 hbk, keep_drew r1 hbk⟩)
      ((first | (go_at_call 99; (with_reducible refine (HT.out _).mono ?_); rintro e w5 ⟨rfl, hbk⟩; obtain ⟨⟨q0, q1, q2, q3, q4, q5, q6⟩, ⟨f0, f1, f2, f3, f4, f5, f6⟩, hsz⟩ := tok_below (hb1.trans ((below_of_drew hbk).mono (by have := hb1.size; simp at this; omega))))))
    have hb2 := hb1.trans ((below_of_drew hbk).mono (by have := hb1.size; simp at this; omega))
    have hbw2 := below_result hb2
    go_wp2_with fail
    refine bodyPost_ret (v := .tuple #[.agg #[.int .i64 2, .string ⟨lt.toArray⟩, .string ⟨la.toArray⟩, .string ⟨lb.toArray⟩, .slice Option.none 0 0, .int .i64 0, .int .i64 0], .int .i64 (n : Nat), .int .i64 0]) (by simp (maxDischargeDepth := 10) [results, Tryz.results48, go_sem, q0, q1, q2, q3, q4, q5, q6]) rfl ⟨⟨.slice Option.none 0 0, rfl, TRow.nil _ _ _ (by unfold maxLen; omega)⟩, ?_⟩
    exact below7 hbw2 _ _ _ _ _ _ _

set_option maxRecDepth 100000 in
set_option maxHeartbeats 4000000 in
theorem tok47_neg (s : List UInt8) (k : Nat) (w : World) (hS : Std w) (hl : s.length ≤ 70000) (h0 : k < s.length) (h1 : letB (s[k]?.getD 0) = false) (h3 : s[k]?.getD 0 = 45) (h4 : k + 1 < s.length) (h5 : digB (s[k + 1]?.getD 0) = true) :
    Calls Tryz.prog 48 #[.string ⟨s.toArray⟩, .int .i64 k] w fun e w' => NextPost w' (numRead (s.drop k)) e ∧ Below w.heap.size w w' := by
  have hx0 := ba_at s k
  have hx1 := ba_at s (k + 1)
  have HL := Lib.hid (fun W => letter47_any (s[k]?.getD 0) W)
  rw [h1] at HL
  have HD := Lib.hid (fun W => digit47_any (s[k + 1]?.getD 0) W)
  rw [h5] at HD
  have HR := Lib.hid (fun W => run_numc s (k + 1) W (by omega) (by omega))
  have hle := runLen_le numB (s.drop (k + 1))
  rw [List.length_drop] at hle
  have hq : (((s[k]?.getD 0).toNat : Int) == 45) = true := by rw [h3]; rfl
  have HN : Box (numLen (s.drop k) = 1 + runLen numB (s.drop (k + 1))) := ⟨by unfold numLen; rw [List.drop_drop]⟩
  unfold numRead
  rw [HN.out]
  have hx := ext_from s k (1 + runLen numB (s.drop (k + 1)))
  clear HN
  generalize runLen numB (s.drop (k + 1)) = n at *
  have HTL : Box (((s.drop k).take (1 + n)).length ≤ 1000000) := ⟨by rw [List.length_take, List.length_drop]; omega⟩
  generalize (s.drop k).take (1 + n) = t at *
  generalize s[k]?.getD 0 = c at *
  clear h5
  generalize s[k + 1]?.getD 0 = c1 at *
  clear h1 h3
  have HP := Lib.hid (fun W hW => parse03_any t W hW (HTL.out))
  have HB : Box (∀ er, fracOf t = .bad er → er ≠ 0) := ⟨fun er h => fracOf_bad h⟩
  generalize isNeg t = b at *
  have HG : Box (∀ n d, fracOf t = .good n d → (itoa (lowN (sgnd b n) d)).length ≤ 1000 ∧ (itoa (lowD (sgnd b n) d)).length ≤ 1000) := ⟨fun n d h => by
    obtain ⟨h1, h2, h3⟩ := fracOf_good h
    have := low_len (n := sgnd b n) (d := (d : Int)) (k := 401) (by rw [sgnd_abs]; omega) (by rw [Int.natAbs_natCast]; omega)
    omega⟩
  have HS := Lib.hid hS
  clear hS HTL
  generalize fracOf t = fr at *
  have hkk : (k : Int) + 1 - k = 1 := by omega
  cases fr with
  | bad er =>
    rw [frdOut_bad] at HP
    have her : (er != 0) = true := by have := HB.out er rfl; simpa using this
    go_enter Tryz.func48, Tryz.ntmps48
    go_wp2_with fail
    refine (HL.out _).mono ?_
    rintro e w1 ⟨rfl, rfl⟩
    go_wp2_with fail
    refine (HD.out _).mono ?_
    rintro e w1 ⟨rfl, rfl⟩
    go_wp2_with fail
    refine (HR.out _).mono ?_
    rintro e w1 ⟨rfl, rfl⟩
    go_wp2_with fail
    refine (HP.out _ (HS.out.alloc _)).mono ?_
    rintro e w2 ⟨rfl, hb1⟩
    rw [World.size_alloc] at hb1
    obtain ⟨⟨q0, q1, q2, q3, q4, q5, q6⟩, ⟨f0, f1, f2, f3, f4, f5, f6⟩, hsz⟩ := tok_below hb1
    have hbw2 := below_result hb1
    go_wp2_with fail
    refine bodyPost_ret (v := .tuple #[.agg #[.int .i64 0, .string ⟨#[]⟩, .string ⟨#[]⟩, .string ⟨#[]⟩, .slice Option.none 0 0, .int .i64 0, .int .i64 0], .int .i64 0, .int .i64 2]) (by simp (maxDischargeDepth := 10) [results, Tryz.results48, go_sem, q0, q1, q2, q3, q4, q5, q6, hsz]) rfl ⟨rfl, ?_⟩
    exact (below7 hbw2 _ _ _ _ _ _ _).alloc (by have := hbw2.size; simp; omega) _
  | good N D =>
    rw [frdOut_good] at HP
    rw [numTok_good]
    obtain ⟨hla, hlb⟩ := HG.out N D rfl
    generalize itoa (lowN (sgnd b N) D) = la at *
    generalize itoa (lowD (sgnd b N) D) = lb at *
    have HT := Lib.hid (fun W => text03_any la lb W (by omega) (by omega))
    generalize ratText la lb = lt at *
    go_enter Tryz.func48, Tryz.ntmps48
    go_wp2_with fail
    refine (HL.out _).mono ?_
    rintro e w1 ⟨rfl, rfl⟩
    go_wp2_with fail
    refine (HD.out _).mono ?_
    rintro e w1 ⟨rfl, rfl⟩
    go_wp2_with fail
    refine (HR.out _).mono ?_
    rintro e w1 ⟨rfl, rfl⟩
    go_wp2_with fail
    refine (HP.out _ (HS.out.alloc _)).mono ?_
    rintro e w2 ⟨rfl, hb1⟩
    rw [World.size_alloc] at hb1
    obtain ⟨⟨q0, q1, q2, q3, q4, q5, q6⟩, ⟨f0, f1, f2, f3, f4, f5, f6⟩, hsz⟩ := tok_below hb1
    have hbw2 := below_result hb1
    go_wp2_with fail
    have r0 : (w2.alloc (.cells #[.string ⟨la.toArray⟩, .string ⟨lb.toArray⟩] 39)).cell? ⟨w2.heap.size, 0, Option.none⟩ = some (.string ⟨la.toArray⟩) := by rw [World.cell?_alloc_new]; rfl
    have r1 : (w2.alloc (.cells #[.string ⟨la.toArray⟩, .string ⟨lb.toArray⟩] 39)).cell? ⟨w2.heap.size, 1, Option.none⟩ = some (.string ⟨lb.toArray⟩) := by rw [World.cell?_alloc_new]; rfl
    replace hb1 := hb1.alloc (by have := hb1.size; simp at this; omega) (.cells #[.string ⟨la.toArray⟩, .string ⟨lb.toArray⟩] 39)
    clear q0 q1 q2 q3 q4 q5 q6 f0 f1 f2 f3 f4 f5 f6
    generalize hWQ : w2.alloc (.cells #[.string ⟨la.toArray⟩, .string ⟨lb.toArray⟩] 39) = WQ at *
    have hne : w2.heap.size ≠ w.heap.size := by omega
    have hne2 : w.heap.size ≠ w2.heap.size := by omega
    clear hWQ hsz hbw2
    go_region_held3 (fun w' => w'.cell? ⟨w2.heap.size, 0, Option.none⟩ = some (.string ⟨la.toArray⟩) ∧ w'.cell? ⟨w2.heap.size, 1, Option.none⟩ = some (.string ⟨lb.toArray⟩))
      (first | go_keep | exact ⟨keep_drew r0 hbk, keep_drew r1 hbk⟩)
      ((first | (go_at_call 99; (with_reducible refine (HT.out _).mono ?_); rintro e w5 ⟨rfl, hbk⟩; obtain ⟨⟨q0, q1, q2, q3, q4, q5, q6⟩, ⟨f0, f1, f2, f3, f4, f5, f6⟩, hsz⟩ := tok_below (hb1.trans ((below_of_drew hbk).mono (by have := hb1.size; simp at this; omega))))))
    have hb2 := hb1.trans ((below_of_drew hbk).mono (by have := hb1.size; simp at this; omega))
    have hbw2 := below_result hb2
    go_wp2_with fail
    refine bodyPost_ret (v := .tuple #[.agg #[.int .i64 2, .string ⟨lt.toArray⟩, .string ⟨la.toArray⟩, .string ⟨lb.toArray⟩, .slice Option.none 0 0, .int .i64 0, .int .i64 0], .int .i64 (1 + n : Nat), .int .i64 0]) (by simp (maxDischargeDepth := 10) [results, Tryz.results48, go_sem, q0, q1, q2, q3, q4, q5, q6]) rfl ⟨⟨.slice Option.none 0 0, rfl, TRow.nil _ _ _ (by unfold maxLen; omega)⟩, ?_⟩
    exact below7 hbw2 _ _ _ _ _ _ _

end Go.Proofs.YtagfnnongamneaaGreatDoor

namespace Go.Proofs.YtagfnnongamneaaGreatDoor
open Go.RowKit Go.Lib

set_option maxRecDepth 100000 in
set_option maxHeartbeats 4000000 in
theorem tok47_brack91 (s : List UInt8) (k : Nat) (w : World) (hS : Std w) (hL : LenIs w) (hl : s.length ≤ 70000) (h0 : k < s.length) (h : s[k]?.getD 0 = 91) :
    Calls Tryz.prog 48 #[.string ⟨s.toArray⟩, .int .i64 k] w fun e w' => NextPost w' (brackRead (s.drop k)) e ∧ Below w.heap.size w w' := by
  have hx0 := ba_at s k
  have HL := Lib.hid (fun W => letter47_any (s[k]?.getD 0) W)
  have HD := Lib.hid (fun W => digit47_any (s[k]?.getD 0) W)
  rw [h, show letB 91 = false from rfl] at HL
  rw [h, show digB 91 = false from rfl] at HD
  have hu0 : (s.drop k)[0]?.getD 0 = 91 := by rw [drop_get, Nat.add_zero]; exact h
  have HBE : Box (brackEnd (s.drop k) = 62) := ⟨by unfold brackEnd; rw [hu0]; rfl⟩
  have HBK : Box (brackKind (s.drop k) = 3) := ⟨by unfold brackKind; rw [hu0]; rfl⟩
  have HI := Lib.hid (fun W => indexByte_any (s.drop k) 62 W)
  obtain ⟨hge, hlt⟩ := indexByte_bd (s.drop k) 62
  rw [List.length_drop] at hlt
  have hbl : Lib.indexByte (s.drop k) 62 + 1 = ((brackLen (s.drop k) : Nat) : Int) := by unfold brackLen; rw [HBE.out]; omega
  have hbl2 : brackLen (s.drop k) ≤ s.length - k := by omega
  unfold brackRead
  rw [HBK.out]
  clear HBE HBK hu0
  have hxr := ext_rest s k
  have hx := ext_from s k (brackLen (s.drop k))
  have HTL : Box (((s.drop k).take (brackLen (s.drop k))).length = brackLen (s.drop k)) := ⟨by rw [List.length_take, List.length_drop]; omega⟩
  have HR := Lib.hid (fun W h1 h2 => rowParse_any ((s.drop k).take (brackLen (s.drop k))) W h1 h2 (by rw [HTL.out]; omega))
  have HB : Box (∀ er, rowRead ((s.drop k).take (brackLen (s.drop k))) = .bad er → er ≠ 0) := ⟨fun er h => rowRead_bad h⟩
  generalize rowRead ((s.drop k).take (brackLen (s.drop k))) = rr at *
  generalize (s.drop k).take (brackLen (s.drop k)) = t at *
  generalize brackLen (s.drop k) = n at *
  generalize Lib.indexByte (s.drop k) 62 = ix at *
  generalize s.drop k = u at *
  have HS := Lib.hid hS
  have HLI := Lib.hid hL
  clear hS hL
  generalize s[k]?.getD 0 = c at *
  subst h
  have hix : IntKind.i64.wrap (ix + 1) = (n : Int) := by rw [hbl]; exact wrap_small _ (by omega) (by omega)
  by_cases hn0 : n = 0
  · rw [if_pos hn0]
    clear HB HR HTL
    go_enter Tryz.func48, Tryz.ntmps48
    go_wp2_with fail
    refine (HL.out _).mono ?_
    rintro e w1 ⟨rfl, rfl⟩
    go_wp2_with fail
    refine (HD.out _).mono ?_
    rintro e w1 ⟨rfl, rfl⟩
    go_wp2_with fail
    refine (HI.out _).mono ?_
    rintro e w1 ⟨rfl, rfl⟩
    go_wp2_with fail
    refine bodyPost_ret (v := .tuple #[.agg #[.int .i64 0, .string ⟨#[]⟩, .string ⟨#[]⟩, .string ⟨#[]⟩, .slice Option.none 0 0, .int .i64 0, .int .i64 0], .int .i64 0, .int .i64 15]) (by simp (maxDischargeDepth := 10) [results, Tryz.results48, go_sem]) rfl ⟨rfl, ?_⟩
    exact (Below.refl _ _).alloc (Nat.le_refl _) _
  rw [if_neg hn0]
  cases rr with
  | bad er =>
    have her : (er != 0) = true := by have := HB.out er rfl; simpa using this
    clear HTL
    go_enter Tryz.func48, Tryz.ntmps48
    go_wp2_with fail
    refine (HL.out _).mono ?_
    rintro e w1 ⟨rfl, rfl⟩
    go_wp2_with fail
    refine (HD.out _).mono ?_
    rintro e w1 ⟨rfl, rfl⟩
    go_wp2_with fail
    refine (HI.out _).mono ?_
    rintro e w1 ⟨rfl, rfl⟩
    go_wp2_with fail
    refine (HR.out _ (HS.out.alloc _) (HLI.out.below ((Below.refl _ _).alloc (Nat.le_refl _) _))).mono ?_
    rintro e w2 ⟨rfl, hb1⟩
    rw [World.size_alloc] at hb1
    obtain ⟨⟨q0, q1, q2, q3, q4, q5, q6⟩, ⟨f0, f1, f2, f3, f4, f5, f6⟩, hsz⟩ := tok_below hb1
    have hbw2 := below_result hb1
    go_wp2_with fail
    refine bodyPost_ret (v := .tuple #[.agg #[.int .i64 0, .string ⟨#[]⟩, .string ⟨#[]⟩, .string ⟨#[]⟩, .slice Option.none 0 0, .int .i64 0, .int .i64 0], .int .i64 0, .int .i64 er]) (by simp (maxDischargeDepth := 10) [results, Tryz.results48, go_sem, q0, q1, q2, q3, q4, q5, q6]) rfl ⟨rfl, ?_⟩
    exact below7 hbw2 _ _ _ _ _ _ _
  | good x kt =>
    go_enter Tryz.func48, Tryz.ntmps48
    go_wp2_with fail
    refine (HL.out _).mono ?_
    rintro e w1 ⟨rfl, rfl⟩
    go_wp2_with fail
    refine (HD.out _).mono ?_
    rintro e w1 ⟨rfl, rfl⟩
    go_wp2_with fail
    refine (HI.out _).mono ?_
    rintro e w1 ⟨rfl, rfl⟩
    go_wp2_with fail
    refine (HR.out _ (HS.out.alloc _) (HLI.out.below ((Below.refl _ _).alloc (Nat.le_refl _) _))).mono ?_
    rintro e w2 ⟨⟨A, cc, rfl, htr⟩, hb1⟩
    rw [World.size_alloc] at hb1
    obtain ⟨⟨q0, q1, q2, q3, q4, q5, q6⟩, ⟨f0, f1, f2, f3, f4, f5, f6⟩, hsz⟩ := tok_below hb1
    have hbw2 := below_result hb1
    have HTR := Lib.hid htr
    have HBL := Lib.hid (cells_of_below hb1)
    clear htr
    go_wp2_with fail
    refine bodyPost_ret (v := .tuple #[.agg #[.int .i64 3, .string ⟨t.toArray⟩, .string ⟨#[]⟩, .string ⟨#[]⟩, .slice A x.length cc, .int .i64 0, .int .i64 0], .int .i64 n, .int .i64 0]) (by simp (maxDischargeDepth := 10) [results, Tryz.results48, go_sem, q0, q1, q2, q3, q4, q5, q6]) rfl ⟨⟨.slice A x.length cc, by rw [← HTL.out]; rfl, ?_⟩, ?_⟩
    · exact HTR.out.store7 HBL.out (by decide) _ _ _ _ _ _ _
    · exact below7 hbw2 _ _ _ _ _ _ _

set_option maxRecDepth 100000 in
set_option maxHeartbeats 4000000 in
theorem tok47_brack60 (s : List UInt8) (k : Nat) (w : World) (hS : Std w) (hL : LenIs w) (hl : s.length ≤ 70000) (h0 : k < s.length) (h : s[k]?.getD 0 = 60) :
    Calls Tryz.prog 48 #[.string ⟨s.toArray⟩, .int .i64 k] w fun e w' => NextPost w' (brackRead (s.drop k)) e ∧ Below w.heap.size w w' := by
  have hx0 := ba_at s k
  have HL := Lib.hid (fun W => letter47_any (s[k]?.getD 0) W)
  have HD := Lib.hid (fun W => digit47_any (s[k]?.getD 0) W)
  rw [h, show letB 60 = false from rfl] at HL
  rw [h, show digB 60 = false from rfl] at HD
  have hu0 : (s.drop k)[0]?.getD 0 = 60 := by rw [drop_get, Nat.add_zero]; exact h
  have HBE : Box (brackEnd (s.drop k) = 93) := ⟨by unfold brackEnd; rw [hu0]; rfl⟩
  have HBK : Box (brackKind (s.drop k) = 4) := ⟨by unfold brackKind; rw [hu0]; rfl⟩
  have HI := Lib.hid (fun W => indexByte_any (s.drop k) 93 W)
  obtain ⟨hge, hlt⟩ := indexByte_bd (s.drop k) 93
  rw [List.length_drop] at hlt
  have hbl : Lib.indexByte (s.drop k) 93 + 1 = ((brackLen (s.drop k) : Nat) : Int) := by unfold brackLen; rw [HBE.out]; omega
  have hbl2 : brackLen (s.drop k) ≤ s.length - k := by omega
  unfold brackRead
  rw [HBK.out]
  clear HBE HBK hu0
  have hxr := ext_rest s k
  have hx := ext_from s k (brackLen (s.drop k))
  have HTL : Box (((s.drop k).take (brackLen (s.drop k))).length = brackLen (s.drop k)) := ⟨by rw [List.length_take, List.length_drop]; omega⟩
  have HR := Lib.hid (fun W h1 h2 => rowParse_any ((s.drop k).take (brackLen (s.drop k))) W h1 h2 (by rw [HTL.out]; omega))
  have HB : Box (∀ er, rowRead ((s.drop k).take (brackLen (s.drop k))) = .bad er → er ≠ 0) := ⟨fun er h => rowRead_bad h⟩
  generalize rowRead ((s.drop k).take (brackLen (s.drop k))) = rr at *
  generalize (s.drop k).take (brackLen (s.drop k)) = t at *
  generalize brackLen (s.drop k) = n at *
  generalize Lib.indexByte (s.drop k) 93 = ix at *
  generalize s.drop k = u at *
  have HS := Lib.hid hS
  have HLI := Lib.hid hL
  clear hS hL
  generalize s[k]?.getD 0 = c at *
  subst h
  have hix : IntKind.i64.wrap (ix + 1) = (n : Int) := by rw [hbl]; exact wrap_small _ (by omega) (by omega)
  by_cases hn0 : n = 0
  · rw [if_pos hn0]
    clear HB HR HTL
    go_enter Tryz.func48, Tryz.ntmps48
    go_wp2_with fail
    refine (HL.out _).mono ?_
    rintro e w1 ⟨rfl, rfl⟩
    go_wp2_with fail
    refine (HD.out _).mono ?_
    rintro e w1 ⟨rfl, rfl⟩
    go_wp2_with fail
    refine (HI.out _).mono ?_
    rintro e w1 ⟨rfl, rfl⟩
    go_wp2_with fail
    refine bodyPost_ret (v := .tuple #[.agg #[.int .i64 0, .string ⟨#[]⟩, .string ⟨#[]⟩, .string ⟨#[]⟩, .slice Option.none 0 0, .int .i64 0, .int .i64 0], .int .i64 0, .int .i64 15]) (by simp (maxDischargeDepth := 10) [results, Tryz.results48, go_sem]) rfl ⟨rfl, ?_⟩
    exact (Below.refl _ _).alloc (Nat.le_refl _) _
  rw [if_neg hn0]
  cases rr with
  | bad er =>
    have her : (er != 0) = true := by have := HB.out er rfl; simpa using this
    clear HTL
    go_enter Tryz.func48, Tryz.ntmps48
    go_wp2_with fail
    refine (HL.out _).mono ?_
    rintro e w1 ⟨rfl, rfl⟩
    go_wp2_with fail
    refine (HD.out _).mono ?_
    rintro e w1 ⟨rfl, rfl⟩
    go_wp2_with fail
    refine (HI.out _).mono ?_
    rintro e w1 ⟨rfl, rfl⟩
    go_wp2_with fail
    refine (HR.out _ (HS.out.alloc _) (HLI.out.below ((Below.refl _ _).alloc (Nat.le_refl _) _))).mono ?_
    rintro e w2 ⟨rfl, hb1⟩
    rw [World.size_alloc] at hb1
    obtain ⟨⟨q0, q1, q2, q3, q4, q5, q6⟩, ⟨f0, f1, f2, f3, f4, f5, f6⟩, hsz⟩ := tok_below hb1
    have hbw2 := below_result hb1
    go_wp2_with fail
    refine bodyPost_ret (v := .tuple #[.agg #[.int .i64 0, .string ⟨#[]⟩, .string ⟨#[]⟩, .string ⟨#[]⟩, .slice Option.none 0 0, .int .i64 0, .int .i64 0], .int .i64 0, .int .i64 er]) (by simp (maxDischargeDepth := 10) [results, Tryz.results48, go_sem, q0, q1, q2, q3, q4, q5, q6]) rfl ⟨rfl, ?_⟩
    exact below7 hbw2 _ _ _ _ _ _ _
  | good x kt =>
    go_enter Tryz.func48, Tryz.ntmps48
    go_wp2_with fail
    refine (HL.out _).mono ?_
    rintro e w1 ⟨rfl, rfl⟩
    go_wp2_with fail
    refine (HD.out _).mono ?_
    rintro e w1 ⟨rfl, rfl⟩
    go_wp2_with fail
    refine (HI.out _).mono ?_
    rintro e w1 ⟨rfl, rfl⟩
    go_wp2_with fail
    refine (HR.out _ (HS.out.alloc _) (HLI.out.below ((Below.refl _ _).alloc (Nat.le_refl _) _))).mono ?_
    rintro e w2 ⟨⟨A, cc, rfl, htr⟩, hb1⟩
    rw [World.size_alloc] at hb1
    obtain ⟨⟨q0, q1, q2, q3, q4, q5, q6⟩, ⟨f0, f1, f2, f3, f4, f5, f6⟩, hsz⟩ := tok_below hb1
    have hbw2 := below_result hb1
    have HTR := Lib.hid htr
    have HBL := Lib.hid (cells_of_below hb1)
    clear htr
    go_wp2_with fail
    refine bodyPost_ret (v := .tuple #[.agg #[.int .i64 4, .string ⟨t.toArray⟩, .string ⟨#[]⟩, .string ⟨#[]⟩, .slice A x.length cc, .int .i64 0, .int .i64 0], .int .i64 n, .int .i64 0]) (by simp (maxDischargeDepth := 10) [results, Tryz.results48, go_sem, q0, q1, q2, q3, q4, q5, q6]) rfl ⟨⟨.slice A x.length cc, by rw [← HTL.out]; rfl, ?_⟩, ?_⟩
    · exact HTR.out.store7 HBL.out (by decide) _ _ _ _ _ _ _
    · exact below7 hbw2 _ _ _ _ _ _ _

end Go.Proofs.YtagfnnongamneaaGreatDoor

namespace Go.Proofs.YtagfnnongamneaaGreatDoor
open Go.RowKit Go.Lib

/-- schismalaw47.token of any place of any text. -/
theorem token47_any (s : List UInt8) (k : Nat) (w : World) (hS : Std w) (hL : LenIs w) (hl : s.length ≤ 70000) (h0 : k < s.length) :
    Calls Tryz.prog 48 #[.string ⟨s.toArray⟩, .int .i64 k] w fun e w' => NextPost w' (nextRead (s.drop k)) e ∧ Below w.heap.size w w' := by
  unfold nextRead
  rw [drop_get, drop_get, Nat.add_zero, List.length_drop]
  cases h1 : letB (s[k]?.getD 0) with
  | true => rw [if_pos rfl]; exact tok47_word s k w hl h0 h1
  | false =>
  rw [if_neg (by decide)]
  cases h2 : digB (s[k]?.getD 0) with
  | true =>
    rw [Bool.true_or, if_pos rfl]
    exact tok47_dig s k w hS hl h0 h1 h2
  | false =>
  rw [Bool.false_or]
  by_cases h3 : s[k]?.getD 0 = 45
  · rw [show (s[k]?.getD 0 == 45) = true by rw [h3]; rfl, Bool.true_and]
    have hne1 : ¬ (s[k]?.getD 0 = 91 ∨ s[k]?.getD 0 = 60) := by rw [h3]; decide
    by_cases h4 : k + 1 < s.length
    · rw [decide_eq_true (by omega : 1 < s.length - k), Bool.true_and]
      cases h5 : digB (s[k + 1]?.getD 0) with
      | true => rw [if_pos rfl]; exact tok47_neg s k w hS hl h0 h1 h3 h4 h5
      | false => rw [if_neg (by decide), if_neg hne1]; exact tok47_rest_c s k w hl h0 h3 h4 h5
    · rw [decide_eq_false (by omega : ¬ 1 < s.length - k), Bool.false_and, if_neg (by decide), if_neg hne1]
      exact tok47_rest_b s k w hl h0 h3 h4
  · rw [show (s[k]?.getD 0 == 45) = false by simpa using h3, Bool.false_and, if_neg (by decide)]
    by_cases h6 : s[k]?.getD 0 = 91
    · rw [if_pos (.inl h6)]; exact tok47_brack91 s k w hS hL hl h0 h6
    · by_cases h7 : s[k]?.getD 0 = 60
      · rw [if_pos (.inr h7)]; exact tok47_brack60 s k w hS hL hl h0 h7
      · rw [if_neg (fun h => h.elim h6 h7)]
        exact tok47_rest_a s k w hl h0 h1 h2 h3 h6 h7

end Go.Proofs.YtagfnnongamneaaGreatDoor

namespace Go.Proofs.YtagfnnongamneaaGreatDoor
open Go.RowKit Go.Lib

theorem semi_cases : ∀ (s : List UInt8), (Lib.indexByte s 59 = -1 ∧ cutSemi s = s) ∨ ∃ n : Nat, Lib.indexByte s 59 = n ∧ n < s.length ∧ cutSemi s = s.take n
  | [] => .inl ⟨rfl, rfl⟩
  | c :: t => by
    by_cases hc : c = 59
    · subst hc
      exact .inr ⟨0, by unfold Lib.indexByte; simp, by simp, rfl⟩
    · rcases semi_cases t with ⟨h1, h2⟩ | ⟨n, h1, h2, h3⟩
      · refine .inl ⟨?_, ?_⟩
        · unfold Lib.indexByte
          rw [h1]; simp [hc]
        · unfold cutSemi at h2 ⊢
          rw [List.takeWhile_cons_of_pos (by simpa using hc), h2]
      · refine .inr ⟨n + 1, ?_, by simp; omega, ?_⟩
        · unfold Lib.indexByte
          rw [h1]; simp [hc]
        · unfold cutSemi at h3 ⊢
          rw [List.takeWhile_cons_of_pos (by simpa using hc), h3]; rfl
theorem blank_idx (c : UInt8) : (0 ≤ Lib.indexByte [32, 9, 13] c) = (blankB c = true) := by
  unfold blankB
  by_cases h1 : c = 32
  · subst h1; rw [show Lib.indexByte [32, 9, 13] 32 = 0 from rfl]; simp
  · by_cases h2 : c = 9
    · subst h2; rw [show Lib.indexByte [32, 9, 13] 9 = 1 from rfl]; simp
    · by_cases h3 : c = 13
      · subst h3; rw [show Lib.indexByte [32, 9, 13] 13 = 2 from rfl]; simp
      · have h : Lib.indexByte [32, 9, 13] c = -1 := by
          unfold Lib.indexByte Lib.indexByte Lib.indexByte Lib.indexByte
          simp [Ne.symm h1, Ne.symm h2, Ne.symm h3]
        rw [h]; simp [h1, h2, h3]

set_option maxRecDepth 100000 in
theorem scan47_long (s : List UInt8) (w : World) (hl : 65536 < s.length) (hl2 : s.length ≤ 100000) :
    Calls Tryz.prog 13 #[.string ⟨s.toArray⟩] w fun e w' => ScanPost w' (.bad 1 1 16) e ∧ Below w.heap.size w w' := by
  go_enter Tryz.func13, Tryz.ntmps13
  go_wp2_with fail
  refine bodyPost_ret (v := .tuple #[.slice Option.none 0 0, .agg #[.int .i64 1, .int .i64 1], .int .i64 16]) (by simp [results, Tryz.results13, go_sem]) rfl ⟨rfl, ?_⟩
  exact (Below.refl _ _).alloc (Nat.le_refl _) _

set_option maxRecDepth 100000 in
set_option maxHeartbeats 8000000 in
theorem scan47_main (s : List UInt8) (w : World) (hS : Std w) (hL : LenIs w) (hl : s.length ≤ 65536) :
    Calls Tryz.prog 13 #[.string ⟨s.toArray⟩] w fun e w' => ScanPost w' (linesRead 0 (cutAll 10 s) []) e ∧ Below w.heap.size w w' := by
  obtain ⟨i0, hi0, hz0, hz1, hz2⟩ := info_parts Tryz.info_tok
  have hL' := hL
  obtain ⟨m, hm⟩ := hL'
  have HM := Lib.hid hm
  have HSP := Lib.hid (fun W hm => splitAt_any 10 s m W (by omega) hm)
  have HS := Lib.hid hS
  have HLI := Lib.hid hL
  have hcl : (cutAll 10 s).length ≤ 65537 := by have := cutAll_len 10 s; omega
  have HPL : Box (∀ k, k < (cutAll 10 s).length → ((cutAll 10 s)[k]?.getD []).length ≤ 65536) := ⟨fun k hk => by have := cutAll_piece 10 s _ (List.getElem_mem hk); rw [List.getElem?_eq_getElem hk]; simp only [Option.getD_some]; omega⟩
  have hli : (s.length : Int) ≤ 65536 := by omega
  clear hS hL hm hl
  generalize cutAll 10 s = ws at *
  have HR0 : Box (linesRead 0 (ws.drop 0) [] = linesRead 0 ws []) := ⟨by rw [List.drop_zero]⟩
  generalize linesRead 0 ws [] = R at *
  go_enter Tryz.func13, Tryz.ntmps13
  go_wp2_with fail
  refine (HSP.out _ ((((Below.refl _ _).alloc (Nat.le_refl _) _).cell (cell_lt HM.out)).trans HM.out)).mono ?_
  rintro e w1 ⟨B, rfl, hww, hb1⟩
  rw [World.size_alloc] at hb1
  have HW := Lib.hid hww
  have HB1 := Lib.hid hb1
  have hbw := below_result hb1
  replace HS := Lib.hid (HS.out.below hbw (Nat.le_refl _))
  replace HLI := Lib.hid (HLI.out.below hbw)
  clear hww hb1 HSP HM
  have HBW := Lib.hid hbw
  clear hbw
  go_wp2_with fail
  go_loopw [5, 24] (fun lv i wr => ∃ (k : Nat) (acc : List Tok), k ≤ ws.length ∧ i = .int .i64 k ∧ Toks wr w1.heap.size lv acc ∧ Below w1.heap.size w1 wr ∧ Box (linesRead k (ws.drop k) acc = R) ∧ acc.length ≤ 4000) (fun _ i _ => ws.length - (intOf i).toNat)
  case atStart => exact ⟨0, [], Nat.zero_le _, rfl, Toks.nil _ _, Below.refl _ _, HR0, by simp⟩
  case round =>
    obtain ⟨k, acc, hk, rfl, htk, hbk, HRk, hacc⟩ := hrel
    have HT := Lib.hid htk
    have HBK := Lib.hid hbk
    clear htk hbk
    by_cases hlt : k < ws.length
    · have hc := (HW.out.below HBK.out).2 k hlt
      have hpl := HPL.out k hlt
      have HD := Lib.hid (drop_at hlt [])
      generalize ws[k]?.getD [] = full at *
      have hln := cutSemi_len full
      have HCT := Lib.hid (fun W => indexByte_any full 59 W)
      have HSC := semi_cases full
      obtain ⟨RL, HRL⟩ : ∃ RL, Box (lineRead k (cutSemi full) (full.length + 1) 0 acc = RL) := ⟨_, ⟨rfl⟩⟩
      have HQB : Box (∀ c e, RL = .bad c e → R = .bad (k + 1) c e) := ⟨fun c e h => by rw [← HRk.out, HD.out, linesRead_bad (HRL.out.trans h)]⟩
      have HQS : Box (∀ l, RL = .good l → l.length = acc.length → linesRead (k + 1) (ws.drop (k + 1)) l = R) := ⟨fun l h h2 => by rw [← HRk.out, HD.out, linesRead_same (HRL.out.trans h) h2]⟩
      have HQF : Box (∀ l, RL = .good l → l.length ≠ acc.length → l.length = 4000 → R = .bad (k + 1) (full.length + 1) 4) := ⟨fun l h h2 h3 => by rw [← HRk.out, HD.out, linesRead_full (HRL.out.trans h) h2 h3]⟩
      have HQM : Box (∀ l, RL = .good l → l.length ≠ acc.length → l.length ≠ 4000 → linesRead (k + 1) (ws.drop (k + 1)) (l ++ [endTok k full]) = R) := ⟨fun l h h2 h3 => by rw [← HRk.out, HD.out, linesRead_more (HRL.out.trans h) h2 h3]⟩
      clear HRk HD
      have hfl : full.length ≤ 65536 := hpl
      obtain ⟨q, hq⟩ : ∃ q, full.length = q := ⟨_, rfl⟩
      rw [show endTok k full = (⟨6, [10], [], [], [], k + 1, q + 1⟩ : Tok) by unfold endTok; rw [hq]] at HQM
      rw [hq] at HRL HQF
      generalize u5 = lv0 at *
      generalize wr = wo at *
      have HX : (Lib.indexByte full 59 = -1 ∧ cutSemi full = full) ∨ ∃ n : Nat, Lib.indexByte full 59 = n ∧ n ≤ full.length ∧ (⟨full.toArray⟩ : ByteArray).extract 0 n = ⟨(cutSemi full).toArray⟩ := by
        rcases HSC with h | ⟨n, h1, h2, h3⟩
        · exact .inl h
        · exact .inr ⟨n, h1, by omega, by rw [h3]; exact ba_ext (by rw [ext_eq]; simp)⟩
      clear HSC
      generalize Lib.indexByte full 59 = ix at *
      generalize cutSemi full = ln at *
      have HQL : Box (full.length = q) := ⟨hq⟩
      have hq6 : q ≤ 65536 := by omega
      rw [hq] at hln
      rcases HX with ⟨rfl, hff⟩ | ⟨n, rfl, hn, hext⟩
      · subst hff
        clear hq
        go_wp2_with fail
        refine (HCT.out _).mono ?_
        rintro e w4 ⟨rfl, rfl⟩
        go_wp2_with fail
        go_loopw [5, 10, 11] (fun lv fd j wr => ∃ (c g : Nat) (l : List Tok), c ≤ ln.length ∧ j = .int .i64 c ∧ ln.length + 1 ≤ c + g ∧ Toks wr w1.heap.size lv l ∧ Below w1.heap.size w1 wr ∧ Box (lineRead k ln g c l = RL) ∧ acc.length ≤ l.length ∧ l.length ≤ 4000 ∧ fd = .bool (decide (l.length ≠ acc.length))) (fun _ _ j _ => ln.length - (intOf j).toNat)
        case atStart => exact ⟨0, q + 1, acc, Nat.zero_le _, rfl, by omega, HT.out, HBK.out, HRL, Nat.le_refl _, hacc, by simp⟩
        case round =>
          clear HT HBK
          obtain ⟨c, g, l, hcl2, rfl, hcg, htk, hbk, HRc, hal, hl4, rfl⟩ := hrel
          obtain ⟨LA, LC, _, hlv, _⟩ := htk.isToks
          subst hlv
          have HT := Lib.hid htk
          have HBK := Lib.hid hbk
          clear htk hbk
          by_cases hlc : c < ln.length
          · obtain ⟨g, rfl⟩ : ∃ g', g = g' + 1 := ⟨g - 1, by omega⟩
            have hx := ba_at ln c
            have HIB := Lib.hid (fun W => indexByte_any [32, 9, 13] (ln[c]?.getD 0) W)
            have HBI := blank_idx (ln[c]?.getD 0)
            have HL1 : Box (blankB (ln[c]?.getD 0) = true → lineRead k ln g (c + 1) l = RL) := ⟨fun h => by rw [← HRc.out, lineRead_blank hlc h]⟩
            have HL2 : Box (∀ e, blankB (ln[c]?.getD 0) = false → nextRead (ln.drop c) = .bad e → RL = .bad (c + 1) e) := ⟨fun e h1 h2 => by rw [← HRc.out, lineRead_bad hlc h1 h2]⟩
            have HL3 : Box (∀ kd t n d x m, blankB (ln[c]?.getD 0) = false → nextRead (ln.drop c) = .good kd t n d x m → l.length = 4000 → RL = .bad (c + 1) 4) := ⟨fun kd t n d x m h1 h2 h3 => by rw [← HRc.out, lineRead_full hlc h1 h2 h3]⟩
            have HL4 : Box (∀ kd t n d x m, blankB (ln[c]?.getD 0) = false → nextRead (ln.drop c) = .good kd t n d x m → l.length ≠ 4000 → lineRead k ln g (c + m) (l ++ [⟨kd, t, n, d, x, k + 1, c + 1⟩]) = RL) := ⟨fun kd t n d x m h1 h2 h3 => by rw [← HRc.out, lineRead_more hlc h1 h2 h3]⟩
            generalize Lib.indexByte [32, 9, 13] (ln[c]?.getD 0) = ib at *
            generalize ln[c]?.getD 0 = ch at *
            clear HRc
            cases hbl : blankB ch with
            | true =>
              have HL1' := HL1.out hbl
              rw [hbl] at HBI
              have hib : 0 ≤ ib := HBI.mpr rfl
              clear HL1 HL2 HL3 HL4 HBI hbl
              have HR1 : Box (lineRead k ln g (c + 1) l = RL) := ⟨HL1'⟩
              clear HL1'
              go_wp2_with fail
              refine (HIB.out _).mono ?_
              rintro e w5 ⟨rfl, rfl⟩
              go_wp2_with fail
              go_roundw
              case rel => exact ⟨c + 1, g, l, by omega, by go_num, by omega, HT.out, HBK.out, HR1, hal, hl4, by simp⟩
              case measure => simp [intOf]; omega
            | false =>
              rw [hbl] at HBI
              have hib : ¬ 0 ≤ ib := fun h => Bool.noConfusion (HBI.mp h)
              clear HBI HL1
              have HDL : Box ((ln.drop c).length = ln.length - c) := ⟨by rw [List.length_drop]⟩
              have HN := Lib.hid (fun W h1 h2 => token47_any ln c W h1 h2 (by have := HQL.out; omega) hlc)
              have HNB : Box (∀ e, nextRead (ln.drop c) = .bad e → e ≠ 0) := ⟨fun e h => nextRead_bad h⟩
              have HNL : Box (∀ kd t n d x m, nextRead (ln.drop c) = .good kd t n d x m → 1 ≤ m ∧ c + m ≤ ln.length) := ⟨fun kd t n d x m h => by have := nextRead_len h (by rw [HDL.out]; omega); rw [HDL.out] at this; omega⟩
              replace HL2 : Box (∀ e, nextRead (ln.drop c) = .bad e → RL = .bad (c + 1) e) := ⟨fun e => HL2.out e hbl⟩
              replace HL3 : Box (∀ kd t n d x m, nextRead (ln.drop c) = .good kd t n d x m → l.length = 4000 → RL = .bad (c + 1) 4) := ⟨fun kd t n d x m => HL3.out kd t n d x m hbl⟩
              replace HL4 : Box (∀ kd t n d x m, nextRead (ln.drop c) = .good kd t n d x m → l.length ≠ 4000 → lineRead k ln g (c + m) (l ++ [⟨kd, t, n, d, x, k + 1, c + 1⟩]) = RL) := ⟨fun kd t n d x m => HL4.out kd t n d x m hbl⟩
              clear hbl HDL
              generalize nextRead (ln.drop c) = nr at *
              generalize ln.drop c = lt at *
              cases nr with
              | bad er =>
                have HRB : Box (R = .bad (k + 1) (c + 1) er) := ⟨HQB.out _ _ (HL2.out _ rfl)⟩
                have her : (er != 0) = true := by have := HNB.out er rfl; simpa using this
                have her2 : (er == 0) = false := by have := HNB.out er rfl; simpa using this
                clear HL2 HL3 HL4 HNB HNL
                go_wp2_with fail
                refine (HIB.out _).mono ?_
                rintro e w5 ⟨rfl, rfl⟩
                go_wp2_with fail
                refine (HN.out _ ((HS.out.below HBK.out (Nat.le_refl _)).alloc _) ((HLI.out.below HBK.out).below ((Below.refl _ _).alloc (Nat.le_refl _) _))).mono ?_
                rintro e w5 ⟨he, hb5⟩
                obtain rfl := nextPost_bad he
                clear he
                have hsz1 : w.heap.size + 1 ≤ w1.heap.size := by have := HB1.out.size; simp at this; omega
                have hsz2 : w1.heap.size ≤ wr.heap.size := HBK.out.size
                have hbR := ((HB1.out.trans (HBK.out.mono hsz1)).alloc (by omega) (.cells #[.int .i64 ((k : Int) + 1), .int .i64 ((c : Int) + 1)] 25)).trans (hb5.mono (by simp; omega))
                rw [World.size_alloc] at hb5
                replace hb5 := hb5.alloc (by have := hb5.size; simp at this; omega) (.cells #[.int .i64 0, .string ⟨#[]⟩, .string ⟨#[]⟩, .string ⟨#[]⟩, .slice Option.none 0 0, .int .i64 0, .int .i64 0] 43)
                replace hbR := hbR.alloc (by have := hbR.size; simp at this; omega) (.cells #[.int .i64 0, .string ⟨#[]⟩, .string ⟨#[]⟩, .string ⟨#[]⟩, .slice Option.none 0 0, .int .i64 0, .int .i64 0] 43)
                go_wp2_with fail
                generalize hWQ : w5.alloc (.cells #[.int .i64 0, .string ⟨#[]⟩, .string ⟨#[]⟩, .string ⟨#[]⟩, .slice Option.none 0 0, .int .i64 0, .int .i64 0] 43) = WQ at *
                clear hWQ
                obtain ⟨p0, p1, p2, p3, p4⟩ := two_below hb5
                obtain ⟨r0, r1, r2, r3, r4⟩ := two_below hbR
                have hne : w.heap.size ≠ wr.heap.size := by omega
                have hne2 : wr.heap.size ≠ w.heap.size := by omega
                have hbE := below_result hbR
                clear hb5 hbR HN HS HLI HT HBK HBW HB1 HW HCT HQS HQF HQM HQB HRL hsz1 hsz2
                go_region
                go_wp2_with fail
                refine bodyPost_ret (v := .tuple #[.slice Option.none 0 0, .agg #[.int .i64 ((k : Int) + 1), .int .i64 ((c : Int) + 1)], .int .i64 er]) (by simp [results, Tryz.results13, go_sem, r0, r1]) rfl ⟨by rw [HRB.out]; rfl, ?_⟩
                exact below_to_drew ((hbE.setCell (Nat.le_refl _) _).setCell (Nat.le_refl _) _)
              | good kd t n d x m =>
                obtain ⟨hm1, hm2⟩ := HNL.out _ _ _ _ _ _ rfl
                by_cases h40 : l.length = 4000
                · have HRB : Box (R = .bad (k + 1) (c + 1) 4) := ⟨HQB.out _ _ (HL3.out _ _ _ _ _ _ rfl h40)⟩
                  have h4a : ((l.length : Int) == 4000) = true := by rw [h40]; rfl
                  clear HL2 HL3 HL4 HNB HNL h40
                  go_wp2_with fail
                  refine (HIB.out _).mono ?_
                  rintro e w5 ⟨rfl, rfl⟩
                  go_wp2_with fail
                  refine (HN.out _ ((HS.out.below HBK.out (Nat.le_refl _)).alloc _) ((HLI.out.below HBK.out).below ((Below.refl _ _).alloc (Nat.le_refl _) _))).mono ?_
                  rintro e w5 ⟨he, hb5⟩
                  obtain ⟨A5, C5, rfl, htr⟩ := nextPost_good he
                  clear he htr
                  have hsz1 : w.heap.size + 1 ≤ w1.heap.size := by have := HB1.out.size; simp at this; omega
                  have hsz2 : w1.heap.size ≤ wr.heap.size := HBK.out.size
                  have hbR := ((HB1.out.trans (HBK.out.mono hsz1)).alloc (by omega) (.cells #[.int .i64 ((k : Int) + 1), .int .i64 ((c : Int) + 1)] 25)).trans (hb5.mono (by simp; omega))
                  rw [World.size_alloc] at hb5
                  replace hb5 := hb5.alloc (by have := hb5.size; simp at this; omega) (.cells #[.int .i64 kd, .string ⟨t.toArray⟩, .string ⟨n.toArray⟩, .string ⟨d.toArray⟩, .slice A5 x.length C5, .int .i64 0, .int .i64 0] 43)
                  replace hbR := hbR.alloc (by have := hbR.size; simp at this; omega) (.cells #[.int .i64 kd, .string ⟨t.toArray⟩, .string ⟨n.toArray⟩, .string ⟨d.toArray⟩, .slice A5 x.length C5, .int .i64 0, .int .i64 0] 43)
                  go_wp2_with fail
                  generalize hWQ : w5.alloc (.cells #[.int .i64 kd, .string ⟨t.toArray⟩, .string ⟨n.toArray⟩, .string ⟨d.toArray⟩, .slice A5 x.length C5, .int .i64 0, .int .i64 0] 43) = WQ at *
                  clear hWQ
                  obtain ⟨p0, p1, p2, p3, p4⟩ := two_below hb5
                  obtain ⟨r0, r1, r2, r3, r4⟩ := two_below hbR
                  have hne : w.heap.size ≠ wr.heap.size := by omega
                  have hne2 : wr.heap.size ≠ w.heap.size := by omega
                  have hbE := below_result hbR
                  clear hb5 hbR HN HS HLI HT HBK HBW HB1 HW HCT HQS HQF HQM HQB HRL hsz1 hsz2
                  go_region
                  go_wp2_with fail
                  refine bodyPost_ret (v := .tuple #[.slice Option.none 0 0, .agg #[.int .i64 ((k : Int) + 1), .int .i64 ((c : Int) + 1)], .int .i64 4]) (by simp [results, Tryz.results13, go_sem, r0, r1]) rfl ⟨by rw [HRB.out]; rfl, ?_⟩
                  exact below_to_drew ((hbE.setCell (Nat.le_refl _) _).setCell (Nat.le_refl _) _)
                · have HRM : Box (lineRead k ln g (c + m) (l ++ [⟨kd, t, n, d, x, k + 1, c + 1⟩]) = RL) := ⟨HL4.out _ _ _ _ _ _ rfl h40⟩
                  have h4a : ((l.length : Int) == 4000) = false := by rw [beq_eq_false_iff_ne]; omega
                  have hl3 : l.length < 4000 := by omega
                  clear HL2 HL3 HL4 HNB HNL h40
                  go_wp2_with fail
                  refine (HIB.out _).mono ?_
                  rintro e w5 ⟨rfl, rfl⟩
                  go_wp2_with fail
                  refine (HN.out _ ((HS.out.below HBK.out (Nat.le_refl _)).alloc _) ((HLI.out.below HBK.out).below ((Below.refl _ _).alloc (Nat.le_refl _) _))).mono ?_
                  rintro e w5 ⟨he, hb5⟩
                  obtain ⟨A5, C5, rfl, htr⟩ := nextPost_good he
                  have HTR := Lib.hid htr
                  clear he htr
                  have hwr5 : Below wr.heap.size wr w5 := ((Below.refl _ _).alloc (Nat.le_refl _) _).trans (hb5.mono (by simp))
                  rw [World.size_alloc] at hb5
                  obtain ⟨p0, p1, p2, p3, p4⟩ := two_below hb5
                  have HWR5 := Lib.hid hwr5
                  clear hb5 hwr5
                  replace HT := Lib.hid (HT.out.below HWR5.out)
                  replace HBK := Lib.hid (HBK.out.trans (HWR5.out.mono HBK.out.size))
                  clear HWR5
                  obtain ⟨rvs, hr1, hown, hr3⟩ := HT.out
                  have HR1 : Box (rvs.length = l.length) := ⟨hr1⟩
                  have HOW := Lib.hid hown
                  have HR3 := Lib.hid hr3
                  clear hr1 hown hr3 HT
                  have hnw := cells_new (w5.alloc (.cells #[.int .i64 kd, .string ⟨t.toArray⟩, .string ⟨n.toArray⟩, .string ⟨d.toArray⟩, .slice A5 x.length C5, .int .i64 ((k : Int) + 1), .int .i64 ((c : Int) + 1)] 43)) #[.int .i64 kd, .string ⟨t.toArray⟩, .string ⟨n.toArray⟩, .string ⟨d.toArray⟩, .slice A5 x.length C5, .int .i64 ((k : Int) + 1), .int .i64 ((c : Int) + 1)] 43
                  rw [World.size_alloc] at hnw
                  have HNW := Lib.hid hnw
                  clear hnw
                  go_wp2_with (at_builtin; refine wpList_append_own _ rfl _ _ _ rfl w1.heap.size 43 i0 (.agg #[.int .i64 0, .string ⟨#[]⟩, .string ⟨#[]⟩, .string ⟨#[]⟩, .slice Option.none 0 0, .int .i64 0, .int .i64 0]) 7 96 Tryz.underlying23 hi0 hz0 hz1 hz2 rfl (by decide) _ _ _ rfl ((HOW.out.alloc _).alloc _) ⟨w5.heap.size + 1, 0, Option.none⟩ 1 1 [.int .i64 kd, .string ⟨t.toArray⟩, .string ⟨n.toArray⟩, .string ⟨d.toArray⟩, .slice A5 x.length C5, .int .i64 ((k : Int) + 1), .int .i64 ((c : Int) + 1)] rfl rfl HNW.out (by intro u hu; simp at hu; rcases hu with rfl | rfl | rfl | rfl | rfl | rfl | rfl <;> rfl) (by unfold maxLen; omega) (by omega) (by have := HBK.out.size; simp; omega) ?_; intro v3 w3 hown3 hg3 _)
                  go_wp2
                  go_roundw
                  case rel =>
                    have hba : Below w5.heap.size w5 ((w5.alloc (.cells #[.int .i64 kd, .string ⟨t.toArray⟩, .string ⟨n.toArray⟩, .string ⟨d.toArray⟩, .slice A5 x.length C5, .int .i64 ((k : Int) + 1), .int .i64 ((c : Int) + 1)] 43)).alloc (.cells #[.int .i64 kd, .string ⟨t.toArray⟩, .string ⟨n.toArray⟩, .string ⟨d.toArray⟩, .slice A5 x.length C5, .int .i64 ((k : Int) + 1), .int .i64 ((c : Int) + 1)] 43)) := ((Below.refl _ _).alloc (Nat.le_refl _) _).alloc (by simp) _
                    refine ⟨c + m, g, l ++ [⟨kd, t, n, d, x, k + 1, c + 1⟩], by omega, by go_num, by omega, ?_, ?_, HRM, by simp; omega, by simp; omega, by rw [decide_eq_true (by simp; omega)]⟩
                    · exact Toks.push (rv := .slice A5 x.length C5) HR1.out ((HOW.out.alloc _).alloc _) (fun k t rv a b => (HR3.out k t rv a b).below hba) (HTR.out.below hba) hown3 hg3
                    · exact (HBK.out.trans (hba.mono HBK.out.size)).grown hg3 (by have := HBK.out.size; simp; omega) (fun k hk => (HOW.out.lt k hk).1)
                  case measure => simp [intOf]; omega
          · have HRG : Box (RL = .good l) := ⟨by rw [← HRc.out, lineRead_end hlc]⟩
            have hqq := HQL.out
            clear HRc
            by_cases hsm : l.length = acc.length
            · have HRS : Box (linesRead (k + 1) (ws.drop (k + 1)) l = R) := ⟨HQS.out l HRG.out hsm⟩
              rw [show decide (l.length ≠ acc.length) = false from decide_eq_false (fun h => h hsm)]
              go_wp2_with fail
              go_roundw
              case rel => exact ⟨k + 1, l, by omega, by go_num, HT.out, HBK.out, HRS, hl4⟩
              case measure => simp [intOf]; omega
            · rw [show decide (l.length ≠ acc.length) = true from decide_eq_true hsm]
              by_cases h40 : l.length = 4000
              · have HRB : Box (R = .bad (k + 1) (q + 1) 4) := ⟨HQF.out l HRG.out hsm h40⟩
                have h4a : ((l.length : Int) == 4000) = true := by rw [h40]; rfl
                clear h40 hsm
                have hsz1 : w.heap.size + 1 ≤ w1.heap.size := by have := HB1.out.size; simp at this; omega
                have hsz2 : w1.heap.size ≤ wr.heap.size := HBK.out.size
                have hbR := ((HB1.out.trans (HBK.out.mono hsz1)).alloc (by omega) (.cells #[.int .i64 ((k : Int) + 1), .int .i64 ((q : Int) + 1)] 25))
                have hb5 : Below (wr.heap.size + 1) (wr.alloc (.cells #[.int .i64 ((k : Int) + 1), .int .i64 ((q : Int) + 1)] 25)) (wr.alloc (.cells #[.int .i64 ((k : Int) + 1), .int .i64 ((q : Int) + 1)] 25)) := Below.refl _ _
                go_wp2_with fail
                generalize hWQ : wr.alloc (.cells #[.int .i64 ((k : Int) + 1), .int .i64 ((q : Int) + 1)] 25) = WQ at hbR ⊢
                rw [hWQ] at hb5
                rw [← hWQ] at hb5
                have hb6 : Below (wr.heap.size + 1) (wr.alloc (.cells #[.int .i64 ((k : Int) + 1), .int .i64 ((q : Int) + 1)] 25)) WQ := by rw [hWQ]; exact Below.refl _ _
                obtain ⟨p0, p1, p2, p3, p4⟩ := two_below hb6
                obtain ⟨r0, r1, r2, r3, r4⟩ := two_below hbR
                have hne : w.heap.size ≠ wr.heap.size := by omega
                have hne2 : wr.heap.size ≠ w.heap.size := by omega
                have hbE := below_result hbR
                clear hb5 hb6 hbR hWQ HS HLI HT HBK HBW HB1 HW HCT HQS HQF HQM HQB HRL hsz1 hsz2
                go_region
                go_wp2_with fail
                refine bodyPost_ret (v := .tuple #[.slice Option.none 0 0, .agg #[.int .i64 ((k : Int) + 1), .int .i64 ((q : Int) + 1)], .int .i64 4]) (by simp [results, Tryz.results13, go_sem, r0, r1]) rfl ⟨by rw [HRB.out]; rfl, ?_⟩
                exact below_to_drew ((hbE.setCell (Nat.le_refl _) _).setCell (Nat.le_refl _) _)
              · have HRM : Box (linesRead (k + 1) (ws.drop (k + 1)) (l ++ [⟨6, [10], [], [], [], k + 1, q + 1⟩]) = R) := ⟨HQM.out l HRG.out hsm h40⟩
                have h4a : ((l.length : Int) == 4000) = false := by rw [beq_eq_false_iff_ne]; omega
                have hl3 : l.length < 4000 := by omega
                clear h40 hsm
                obtain ⟨rvs, hr1, hown, hr3⟩ := HT.out
                have HR1 : Box (rvs.length = l.length) := ⟨hr1⟩
                have HOW := Lib.hid hown
                have HR3 := Lib.hid hr3
                clear hr1 hown hr3 HT
                have hnw := cells_new (wr.alloc (.cells #[.int .i64 ((k : Int) + 1), .int .i64 ((q : Int) + 1)] 25)) #[.int .i64 6, .string ⟨#[10]⟩, .string ⟨#[]⟩, .string ⟨#[]⟩, .slice Option.none 0 0, .int .i64 ((k : Int) + 1), .int .i64 ((q : Int) + 1)] 43
                rw [World.size_alloc] at hnw
                have HNW := Lib.hid hnw
                clear hnw
                go_wp2_with (at_builtin; refine wpList_append_own _ rfl _ _ _ rfl w1.heap.size 43 i0 (.agg #[.int .i64 0, .string ⟨#[]⟩, .string ⟨#[]⟩, .string ⟨#[]⟩, .slice Option.none 0 0, .int .i64 0, .int .i64 0]) 7 96 Tryz.underlying23 hi0 hz0 hz1 hz2 rfl (by decide) _ _ _ rfl ((HOW.out.alloc _).alloc _) ⟨wr.heap.size + 1, 0, Option.none⟩ 1 1 [.int .i64 6, .string ⟨#[10]⟩, .string ⟨#[]⟩, .string ⟨#[]⟩, .slice Option.none 0 0, .int .i64 ((k : Int) + 1), .int .i64 ((q : Int) + 1)] rfl rfl HNW.out (by intro u hu; simp at hu; rcases hu with rfl | rfl | rfl | rfl | rfl | rfl | rfl <;> rfl) (by unfold maxLen; omega) (by omega) (by have := HBK.out.size; simp; omega) ?_; intro v3 w3 hown3 hg3 _)
                go_wp2
                go_roundw
                case rel =>
                  have hba : Below wr.heap.size wr ((wr.alloc (.cells #[.int .i64 ((k : Int) + 1), .int .i64 ((q : Int) + 1)] 25)).alloc (.cells #[.int .i64 6, .string ⟨#[10]⟩, .string ⟨#[]⟩, .string ⟨#[]⟩, .slice Option.none 0 0, .int .i64 ((k : Int) + 1), .int .i64 ((q : Int) + 1)] 43)) := ((Below.refl _ _).alloc (Nat.le_refl _) _).alloc (by simp) _
                  refine ⟨k + 1, l ++ [⟨6, [10], [], [], [], k + 1, q + 1⟩], by omega, by go_num, ?_, ?_, HRM, by simp; omega⟩
                  · exact Toks.push (rv := .slice Option.none 0 0) HR1.out ((HOW.out.alloc _).alloc _) (fun k t rv a b => (HR3.out k t rv a b).below hba) (TRow.nil _ _ _ (by unfold maxLen; omega)) hown3 hg3
                  · exact (HBK.out.trans (hba.mono HBK.out.size)).grown hg3 (by have := HBK.out.size; simp; omega) (fun k hk => (HOW.out.lt k hk).1)
                case measure => simp [intOf]; omega
      · clear hq
        go_wp2_with fail
        refine (HCT.out _).mono ?_
        rintro e w4 ⟨rfl, rfl⟩
        go_wp2_with fail
        go_loopw [5, 10, 11] (fun lv fd j wr => ∃ (c g : Nat) (l : List Tok), c ≤ ln.length ∧ j = .int .i64 c ∧ ln.length + 1 ≤ c + g ∧ Toks wr w1.heap.size lv l ∧ Below w1.heap.size w1 wr ∧ Box (lineRead k ln g c l = RL) ∧ acc.length ≤ l.length ∧ l.length ≤ 4000 ∧ fd = .bool (decide (l.length ≠ acc.length))) (fun _ _ j _ => ln.length - (intOf j).toNat)
        case atStart => exact ⟨0, q + 1, acc, Nat.zero_le _, rfl, by omega, HT.out, HBK.out, HRL, Nat.le_refl _, hacc, by simp⟩
        case round =>
          clear HT HBK
          obtain ⟨c, g, l, hcl2, rfl, hcg, htk, hbk, HRc, hal, hl4, rfl⟩ := hrel
          obtain ⟨LA, LC, _, hlv, _⟩ := htk.isToks
          subst hlv
          have HT := Lib.hid htk
          have HBK := Lib.hid hbk
          clear htk hbk
          by_cases hlc : c < ln.length
          · obtain ⟨g, rfl⟩ : ∃ g', g = g' + 1 := ⟨g - 1, by omega⟩
            have hx := ba_at ln c
            have HIB := Lib.hid (fun W => indexByte_any [32, 9, 13] (ln[c]?.getD 0) W)
            have HBI := blank_idx (ln[c]?.getD 0)
            have HL1 : Box (blankB (ln[c]?.getD 0) = true → lineRead k ln g (c + 1) l = RL) := ⟨fun h => by rw [← HRc.out, lineRead_blank hlc h]⟩
            have HL2 : Box (∀ e, blankB (ln[c]?.getD 0) = false → nextRead (ln.drop c) = .bad e → RL = .bad (c + 1) e) := ⟨fun e h1 h2 => by rw [← HRc.out, lineRead_bad hlc h1 h2]⟩
            have HL3 : Box (∀ kd t n d x m, blankB (ln[c]?.getD 0) = false → nextRead (ln.drop c) = .good kd t n d x m → l.length = 4000 → RL = .bad (c + 1) 4) := ⟨fun kd t n d x m h1 h2 h3 => by rw [← HRc.out, lineRead_full hlc h1 h2 h3]⟩
            have HL4 : Box (∀ kd t n d x m, blankB (ln[c]?.getD 0) = false → nextRead (ln.drop c) = .good kd t n d x m → l.length ≠ 4000 → lineRead k ln g (c + m) (l ++ [⟨kd, t, n, d, x, k + 1, c + 1⟩]) = RL) := ⟨fun kd t n d x m h1 h2 h3 => by rw [← HRc.out, lineRead_more hlc h1 h2 h3]⟩
            generalize Lib.indexByte [32, 9, 13] (ln[c]?.getD 0) = ib at *
            generalize ln[c]?.getD 0 = ch at *
            clear HRc
            cases hbl : blankB ch with
            | true =>
              have HL1' := HL1.out hbl
              rw [hbl] at HBI
              have hib : 0 ≤ ib := HBI.mpr rfl
              clear HL1 HL2 HL3 HL4 HBI hbl
              have HR1 : Box (lineRead k ln g (c + 1) l = RL) := ⟨HL1'⟩
              clear HL1'
              go_wp2_with fail
              refine (HIB.out _).mono ?_
              rintro e w5 ⟨rfl, rfl⟩
              go_wp2_with fail
              go_roundw
              case rel => exact ⟨c + 1, g, l, by omega, by go_num, by omega, HT.out, HBK.out, HR1, hal, hl4, by simp⟩
              case measure => simp [intOf]; omega
            | false =>
              rw [hbl] at HBI
              have hib : ¬ 0 ≤ ib := fun h => Bool.noConfusion (HBI.mp h)
              clear HBI HL1
              have HDL : Box ((ln.drop c).length = ln.length - c) := ⟨by rw [List.length_drop]⟩
              have HN := Lib.hid (fun W h1 h2 => token47_any ln c W h1 h2 (by have := HQL.out; omega) hlc)
              have HNB : Box (∀ e, nextRead (ln.drop c) = .bad e → e ≠ 0) := ⟨fun e h => nextRead_bad h⟩
              have HNL : Box (∀ kd t n d x m, nextRead (ln.drop c) = .good kd t n d x m → 1 ≤ m ∧ c + m ≤ ln.length) := ⟨fun kd t n d x m h => by have := nextRead_len h (by rw [HDL.out]; omega); rw [HDL.out] at this; omega⟩
              replace HL2 : Box (∀ e, nextRead (ln.drop c) = .bad e → RL = .bad (c + 1) e) := ⟨fun e => HL2.out e hbl⟩
              replace HL3 : Box (∀ kd t n d x m, nextRead (ln.drop c) = .good kd t n d x m → l.length = 4000 → RL = .bad (c + 1) 4) := ⟨fun kd t n d x m => HL3.out kd t n d x m hbl⟩
              replace HL4 : Box (∀ kd t n d x m, nextRead (ln.drop c) = .good kd t n d x m → l.length ≠ 4000 → lineRead k ln g (c + m) (l ++ [⟨kd, t, n, d, x, k + 1, c + 1⟩]) = RL) := ⟨fun kd t n d x m => HL4.out kd t n d x m hbl⟩
              clear hbl HDL
              generalize nextRead (ln.drop c) = nr at *
              generalize ln.drop c = lt at *
              cases nr with
              | bad er =>
                have HRB : Box (R = .bad (k + 1) (c + 1) er) := ⟨HQB.out _ _ (HL2.out _ rfl)⟩
                have her : (er != 0) = true := by have := HNB.out er rfl; simpa using this
                have her2 : (er == 0) = false := by have := HNB.out er rfl; simpa using this
                clear HL2 HL3 HL4 HNB HNL
                go_wp2_with fail
                refine (HIB.out _).mono ?_
                rintro e w5 ⟨rfl, rfl⟩
                go_wp2_with fail
                refine (HN.out _ ((HS.out.below HBK.out (Nat.le_refl _)).alloc _) ((HLI.out.below HBK.out).below ((Below.refl _ _).alloc (Nat.le_refl _) _))).mono ?_
                rintro e w5 ⟨he, hb5⟩
                obtain rfl := nextPost_bad he
                clear he
                have hsz1 : w.heap.size + 1 ≤ w1.heap.size := by have := HB1.out.size; simp at this; omega
                have hsz2 : w1.heap.size ≤ wr.heap.size := HBK.out.size
                have hbR := ((HB1.out.trans (HBK.out.mono hsz1)).alloc (by omega) (.cells #[.int .i64 ((k : Int) + 1), .int .i64 ((c : Int) + 1)] 25)).trans (hb5.mono (by simp; omega))
                rw [World.size_alloc] at hb5
                replace hb5 := hb5.alloc (by have := hb5.size; simp at this; omega) (.cells #[.int .i64 0, .string ⟨#[]⟩, .string ⟨#[]⟩, .string ⟨#[]⟩, .slice Option.none 0 0, .int .i64 0, .int .i64 0] 43)
                replace hbR := hbR.alloc (by have := hbR.size; simp at this; omega) (.cells #[.int .i64 0, .string ⟨#[]⟩, .string ⟨#[]⟩, .string ⟨#[]⟩, .slice Option.none 0 0, .int .i64 0, .int .i64 0] 43)
                go_wp2_with fail
                generalize hWQ : w5.alloc (.cells #[.int .i64 0, .string ⟨#[]⟩, .string ⟨#[]⟩, .string ⟨#[]⟩, .slice Option.none 0 0, .int .i64 0, .int .i64 0] 43) = WQ at *
                clear hWQ
                obtain ⟨p0, p1, p2, p3, p4⟩ := two_below hb5
                obtain ⟨r0, r1, r2, r3, r4⟩ := two_below hbR
                have hne : w.heap.size ≠ wr.heap.size := by omega
                have hne2 : wr.heap.size ≠ w.heap.size := by omega
                have hbE := below_result hbR
                clear hb5 hbR HN HS HLI HT HBK HBW HB1 HW HCT HQS HQF HQM HQB HRL hsz1 hsz2
                go_region
                go_wp2_with fail
                refine bodyPost_ret (v := .tuple #[.slice Option.none 0 0, .agg #[.int .i64 ((k : Int) + 1), .int .i64 ((c : Int) + 1)], .int .i64 er]) (by simp [results, Tryz.results13, go_sem, r0, r1]) rfl ⟨by rw [HRB.out]; rfl, ?_⟩
                exact below_to_drew ((hbE.setCell (Nat.le_refl _) _).setCell (Nat.le_refl _) _)
              | good kd t n d x m =>
                obtain ⟨hm1, hm2⟩ := HNL.out _ _ _ _ _ _ rfl
                by_cases h40 : l.length = 4000
                · have HRB : Box (R = .bad (k + 1) (c + 1) 4) := ⟨HQB.out _ _ (HL3.out _ _ _ _ _ _ rfl h40)⟩
                  have h4a : ((l.length : Int) == 4000) = true := by rw [h40]; rfl
                  clear HL2 HL3 HL4 HNB HNL h40
                  go_wp2_with fail
                  refine (HIB.out _).mono ?_
                  rintro e w5 ⟨rfl, rfl⟩
                  go_wp2_with fail
                  refine (HN.out _ ((HS.out.below HBK.out (Nat.le_refl _)).alloc _) ((HLI.out.below HBK.out).below ((Below.refl _ _).alloc (Nat.le_refl _) _))).mono ?_
                  rintro e w5 ⟨he, hb5⟩
                  obtain ⟨A5, C5, rfl, htr⟩ := nextPost_good he
                  clear he htr
                  have hsz1 : w.heap.size + 1 ≤ w1.heap.size := by have := HB1.out.size; simp at this; omega
                  have hsz2 : w1.heap.size ≤ wr.heap.size := HBK.out.size
                  have hbR := ((HB1.out.trans (HBK.out.mono hsz1)).alloc (by omega) (.cells #[.int .i64 ((k : Int) + 1), .int .i64 ((c : Int) + 1)] 25)).trans (hb5.mono (by simp; omega))
                  rw [World.size_alloc] at hb5
                  replace hb5 := hb5.alloc (by have := hb5.size; simp at this; omega) (.cells #[.int .i64 kd, .string ⟨t.toArray⟩, .string ⟨n.toArray⟩, .string ⟨d.toArray⟩, .slice A5 x.length C5, .int .i64 0, .int .i64 0] 43)
                  replace hbR := hbR.alloc (by have := hbR.size; simp at this; omega) (.cells #[.int .i64 kd, .string ⟨t.toArray⟩, .string ⟨n.toArray⟩, .string ⟨d.toArray⟩, .slice A5 x.length C5, .int .i64 0, .int .i64 0] 43)
                  go_wp2_with fail
                  generalize hWQ : w5.alloc (.cells #[.int .i64 kd, .string ⟨t.toArray⟩, .string ⟨n.toArray⟩, .string ⟨d.toArray⟩, .slice A5 x.length C5, .int .i64 0, .int .i64 0] 43) = WQ at *
                  clear hWQ
                  obtain ⟨p0, p1, p2, p3, p4⟩ := two_below hb5
                  obtain ⟨r0, r1, r2, r3, r4⟩ := two_below hbR
                  have hne : w.heap.size ≠ wr.heap.size := by omega
                  have hne2 : wr.heap.size ≠ w.heap.size := by omega
                  have hbE := below_result hbR
                  clear hb5 hbR HN HS HLI HT HBK HBW HB1 HW HCT HQS HQF HQM HQB HRL hsz1 hsz2
                  go_region
                  go_wp2_with fail
                  refine bodyPost_ret (v := .tuple #[.slice Option.none 0 0, .agg #[.int .i64 ((k : Int) + 1), .int .i64 ((c : Int) + 1)], .int .i64 4]) (by simp [results, Tryz.results13, go_sem, r0, r1]) rfl ⟨by rw [HRB.out]; rfl, ?_⟩
                  exact below_to_drew ((hbE.setCell (Nat.le_refl _) _).setCell (Nat.le_refl _) _)
                · have HRM : Box (lineRead k ln g (c + m) (l ++ [⟨kd, t, n, d, x, k + 1, c + 1⟩]) = RL) := ⟨HL4.out _ _ _ _ _ _ rfl h40⟩
                  have h4a : ((l.length : Int) == 4000) = false := by rw [beq_eq_false_iff_ne]; omega
                  have hl3 : l.length < 4000 := by omega
                  clear HL2 HL3 HL4 HNB HNL h40
                  go_wp2_with fail
                  refine (HIB.out _).mono ?_
                  rintro e w5 ⟨rfl, rfl⟩
                  go_wp2_with fail
                  refine (HN.out _ ((HS.out.below HBK.out (Nat.le_refl _)).alloc _) ((HLI.out.below HBK.out).below ((Below.refl _ _).alloc (Nat.le_refl _) _))).mono ?_
                  rintro e w5 ⟨he, hb5⟩
                  obtain ⟨A5, C5, rfl, htr⟩ := nextPost_good he
                  have HTR := Lib.hid htr
                  clear he htr
                  have hwr5 : Below wr.heap.size wr w5 := ((Below.refl _ _).alloc (Nat.le_refl _) _).trans (hb5.mono (by simp))
                  rw [World.size_alloc] at hb5
                  obtain ⟨p0, p1, p2, p3, p4⟩ := two_below hb5
                  have HWR5 := Lib.hid hwr5
                  clear hb5 hwr5
                  replace HT := Lib.hid (HT.out.below HWR5.out)
                  replace HBK := Lib.hid (HBK.out.trans (HWR5.out.mono HBK.out.size))
                  clear HWR5
                  obtain ⟨rvs, hr1, hown, hr3⟩ := HT.out
                  have HR1 : Box (rvs.length = l.length) := ⟨hr1⟩
                  have HOW := Lib.hid hown
                  have HR3 := Lib.hid hr3
                  clear hr1 hown hr3 HT
                  have hnw := cells_new (w5.alloc (.cells #[.int .i64 kd, .string ⟨t.toArray⟩, .string ⟨n.toArray⟩, .string ⟨d.toArray⟩, .slice A5 x.length C5, .int .i64 ((k : Int) + 1), .int .i64 ((c : Int) + 1)] 43)) #[.int .i64 kd, .string ⟨t.toArray⟩, .string ⟨n.toArray⟩, .string ⟨d.toArray⟩, .slice A5 x.length C5, .int .i64 ((k : Int) + 1), .int .i64 ((c : Int) + 1)] 43
                  rw [World.size_alloc] at hnw
                  have HNW := Lib.hid hnw
                  clear hnw
                  go_wp2_with (at_builtin; refine wpList_append_own _ rfl _ _ _ rfl w1.heap.size 43 i0 (.agg #[.int .i64 0, .string ⟨#[]⟩, .string ⟨#[]⟩, .string ⟨#[]⟩, .slice Option.none 0 0, .int .i64 0, .int .i64 0]) 7 96 Tryz.underlying23 hi0 hz0 hz1 hz2 rfl (by decide) _ _ _ rfl ((HOW.out.alloc _).alloc _) ⟨w5.heap.size + 1, 0, Option.none⟩ 1 1 [.int .i64 kd, .string ⟨t.toArray⟩, .string ⟨n.toArray⟩, .string ⟨d.toArray⟩, .slice A5 x.length C5, .int .i64 ((k : Int) + 1), .int .i64 ((c : Int) + 1)] rfl rfl HNW.out (by intro u hu; simp at hu; rcases hu with rfl | rfl | rfl | rfl | rfl | rfl | rfl <;> rfl) (by unfold maxLen; omega) (by omega) (by have := HBK.out.size; simp; omega) ?_; intro v3 w3 hown3 hg3 _)
                  go_wp2
                  go_roundw
                  case rel =>
                    have hba : Below w5.heap.size w5 ((w5.alloc (.cells #[.int .i64 kd, .string ⟨t.toArray⟩, .string ⟨n.toArray⟩, .string ⟨d.toArray⟩, .slice A5 x.length C5, .int .i64 ((k : Int) + 1), .int .i64 ((c : Int) + 1)] 43)).alloc (.cells #[.int .i64 kd, .string ⟨t.toArray⟩, .string ⟨n.toArray⟩, .string ⟨d.toArray⟩, .slice A5 x.length C5, .int .i64 ((k : Int) + 1), .int .i64 ((c : Int) + 1)] 43)) := ((Below.refl _ _).alloc (Nat.le_refl _) _).alloc (by simp) _
                    refine ⟨c + m, g, l ++ [⟨kd, t, n, d, x, k + 1, c + 1⟩], by omega, by go_num, by omega, ?_, ?_, HRM, by simp; omega, by simp; omega, by rw [decide_eq_true (by simp; omega)]⟩
                    · exact Toks.push (rv := .slice A5 x.length C5) HR1.out ((HOW.out.alloc _).alloc _) (fun k t rv a b => (HR3.out k t rv a b).below hba) (HTR.out.below hba) hown3 hg3
                    · exact (HBK.out.trans (hba.mono HBK.out.size)).grown hg3 (by have := HBK.out.size; simp; omega) (fun k hk => (HOW.out.lt k hk).1)
                  case measure => simp [intOf]; omega
          · have HRG : Box (RL = .good l) := ⟨by rw [← HRc.out, lineRead_end hlc]⟩
            have hqq := HQL.out
            clear HRc
            by_cases hsm : l.length = acc.length
            · have HRS : Box (linesRead (k + 1) (ws.drop (k + 1)) l = R) := ⟨HQS.out l HRG.out hsm⟩
              rw [show decide (l.length ≠ acc.length) = false from decide_eq_false (fun h => h hsm)]
              go_wp2_with fail
              go_roundw
              case rel => exact ⟨k + 1, l, by omega, by go_num, HT.out, HBK.out, HRS, hl4⟩
              case measure => simp [intOf]; omega
            · rw [show decide (l.length ≠ acc.length) = true from decide_eq_true hsm]
              by_cases h40 : l.length = 4000
              · have HRB : Box (R = .bad (k + 1) (q + 1) 4) := ⟨HQF.out l HRG.out hsm h40⟩
                have h4a : ((l.length : Int) == 4000) = true := by rw [h40]; rfl
                clear h40 hsm
                have hsz1 : w.heap.size + 1 ≤ w1.heap.size := by have := HB1.out.size; simp at this; omega
                have hsz2 : w1.heap.size ≤ wr.heap.size := HBK.out.size
                have hbR := ((HB1.out.trans (HBK.out.mono hsz1)).alloc (by omega) (.cells #[.int .i64 ((k : Int) + 1), .int .i64 ((q : Int) + 1)] 25))
                have hb5 : Below (wr.heap.size + 1) (wr.alloc (.cells #[.int .i64 ((k : Int) + 1), .int .i64 ((q : Int) + 1)] 25)) (wr.alloc (.cells #[.int .i64 ((k : Int) + 1), .int .i64 ((q : Int) + 1)] 25)) := Below.refl _ _
                go_wp2_with fail
                generalize hWQ : wr.alloc (.cells #[.int .i64 ((k : Int) + 1), .int .i64 ((q : Int) + 1)] 25) = WQ at hbR ⊢
                rw [hWQ] at hb5
                rw [← hWQ] at hb5
                have hb6 : Below (wr.heap.size + 1) (wr.alloc (.cells #[.int .i64 ((k : Int) + 1), .int .i64 ((q : Int) + 1)] 25)) WQ := by rw [hWQ]; exact Below.refl _ _
                obtain ⟨p0, p1, p2, p3, p4⟩ := two_below hb6
                obtain ⟨r0, r1, r2, r3, r4⟩ := two_below hbR
                have hne : w.heap.size ≠ wr.heap.size := by omega
                have hne2 : wr.heap.size ≠ w.heap.size := by omega
                have hbE := below_result hbR
                clear hb5 hb6 hbR hWQ HS HLI HT HBK HBW HB1 HW HCT HQS HQF HQM HQB HRL hsz1 hsz2
                go_region
                go_wp2_with fail
                refine bodyPost_ret (v := .tuple #[.slice Option.none 0 0, .agg #[.int .i64 ((k : Int) + 1), .int .i64 ((q : Int) + 1)], .int .i64 4]) (by simp [results, Tryz.results13, go_sem, r0, r1]) rfl ⟨by rw [HRB.out]; rfl, ?_⟩
                exact below_to_drew ((hbE.setCell (Nat.le_refl _) _).setCell (Nat.le_refl _) _)
              · have HRM : Box (linesRead (k + 1) (ws.drop (k + 1)) (l ++ [⟨6, [10], [], [], [], k + 1, q + 1⟩]) = R) := ⟨HQM.out l HRG.out hsm h40⟩
                have h4a : ((l.length : Int) == 4000) = false := by rw [beq_eq_false_iff_ne]; omega
                have hl3 : l.length < 4000 := by omega
                clear h40 hsm
                obtain ⟨rvs, hr1, hown, hr3⟩ := HT.out
                have HR1 : Box (rvs.length = l.length) := ⟨hr1⟩
                have HOW := Lib.hid hown
                have HR3 := Lib.hid hr3
                clear hr1 hown hr3 HT
                have hnw := cells_new (wr.alloc (.cells #[.int .i64 ((k : Int) + 1), .int .i64 ((q : Int) + 1)] 25)) #[.int .i64 6, .string ⟨#[10]⟩, .string ⟨#[]⟩, .string ⟨#[]⟩, .slice Option.none 0 0, .int .i64 ((k : Int) + 1), .int .i64 ((q : Int) + 1)] 43
                rw [World.size_alloc] at hnw
                have HNW := Lib.hid hnw
                clear hnw
                go_wp2_with (at_builtin; refine wpList_append_own _ rfl _ _ _ rfl w1.heap.size 43 i0 (.agg #[.int .i64 0, .string ⟨#[]⟩, .string ⟨#[]⟩, .string ⟨#[]⟩, .slice Option.none 0 0, .int .i64 0, .int .i64 0]) 7 96 Tryz.underlying23 hi0 hz0 hz1 hz2 rfl (by decide) _ _ _ rfl ((HOW.out.alloc _).alloc _) ⟨wr.heap.size + 1, 0, Option.none⟩ 1 1 [.int .i64 6, .string ⟨#[10]⟩, .string ⟨#[]⟩, .string ⟨#[]⟩, .slice Option.none 0 0, .int .i64 ((k : Int) + 1), .int .i64 ((q : Int) + 1)] rfl rfl HNW.out (by intro u hu; simp at hu; rcases hu with rfl | rfl | rfl | rfl | rfl | rfl | rfl <;> rfl) (by unfold maxLen; omega) (by omega) (by have := HBK.out.size; simp; omega) ?_; intro v3 w3 hown3 hg3 _)
                go_wp2
                go_roundw
                case rel =>
                  have hba : Below wr.heap.size wr ((wr.alloc (.cells #[.int .i64 ((k : Int) + 1), .int .i64 ((q : Int) + 1)] 25)).alloc (.cells #[.int .i64 6, .string ⟨#[10]⟩, .string ⟨#[]⟩, .string ⟨#[]⟩, .slice Option.none 0 0, .int .i64 ((k : Int) + 1), .int .i64 ((q : Int) + 1)] 43)) := ((Below.refl _ _).alloc (Nat.le_refl _) _).alloc (by simp) _
                  refine ⟨k + 1, l ++ [⟨6, [10], [], [], [], k + 1, q + 1⟩], by omega, by go_num, ?_, ?_, HRM, by simp; omega⟩
                  · exact Toks.push (rv := .slice Option.none 0 0) HR1.out ((HOW.out.alloc _).alloc _) (fun k t rv a b => (HR3.out k t rv a b).below hba) (TRow.nil _ _ _ (by unfold maxLen; omega)) hown3 hg3
                  · exact (HBK.out.trans (hba.mono HBK.out.size)).grown hg3 (by have := HBK.out.size; simp; omega) (fun k hk => (HOW.out.lt k hk).1)
                case measure => simp [intOf]; omega
    · obtain rfl : k = ws.length := by omega
      have HRG : Box (R = .good acc) := ⟨by rw [← HRk.out, List.drop_length]; rfl⟩
      obtain ⟨LA, LC, _, hlv, _⟩ := HT.out.isToks
      subst hlv
      have HTK := Lib.hid HT.out
      have hsz1 : w.heap.size + 1 ≤ w1.heap.size := by have := HB1.out.size; simp at this; omega
      have hbR := HB1.out.trans (HBK.out.mono hsz1)
      obtain ⟨r0, r1, r2, r3, r4⟩ := two_below hbR
      have hbE := below_result hbR
      have HBL := Lib.hid (cells_of_below hbR)
      clear hbR HRk HT
      go_wp2_with fail
      refine bodyPost_ret (v := .tuple #[.slice LA acc.length LC, .agg #[.int .i64 0, .int .i64 0], .int .i64 0]) (by simp [results, Tryz.results13, go_sem, r0, r1]) rfl ⟨?_, ?_⟩
      · rw [HRG.out]
        exact ⟨LA, LC, rfl, ((HTK.out.set (by omega) HBL.out (by decide) _).set (by omega) (HBL.out.set 0 _) (by decide) _).isToks⟩
      · exact (hbE.setCell (Nat.le_refl _) _).setCell (Nat.le_refl _) _

/-- schismalaw47.scan of any text. -/
theorem scan47_any (s : List UInt8) (w : World) (hS : Std w) (hL : LenIs w) (hl : s.length ≤ 100000) :
    Calls Tryz.prog 13 #[.string ⟨s.toArray⟩] w fun e w' => ScanPost w' (scanRead s) e ∧ Below w.heap.size w w' := by
  unfold scanRead
  by_cases h : 65536 < s.length
  · rw [if_pos h]; exact scan47_long s w h hl
  · rw [if_neg h]; exact scan47_main s w hS hL (by omega)

end Go.Proofs.YtagfnnongamneaaGreatDoor
