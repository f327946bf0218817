/- The law's of. -/
import Derived.Test.YtkoemgemnklmdaaGreatDoorPartsG
import Derived.Test.YtkoemgemnklmdaaGreatDoorGH
namespace Go.Proofs.YtkoemgemnklmdaaGreatDoor
open Go.RowKit Go.Lib

set_option maxRecDepth 100000 in
set_option maxHeartbeats 1000000 in
theorem lawOf_neg (pv : Value) (p : List Int) (n d : Int) (w : World) (hpv : IsRow w w.heap.size pv p) (hn : n ≤ 0) :
    Calls Tryz.prog 25 #[pv, .int .i64 n, .int .i64 d] w fun e w' => e = .returned (.tuple #[.slice Option.none 0 0, .int .i64 3]) ∧ Below w.heap.size w w' := by
  obtain ⟨AP, cp, rfl, _⟩ := hpv
  go_enter Tryz.func25, Tryz.ntmps25
  go_wp2_with fail
  go_ret2
  exact ⟨rfl, Below.refl _ _⟩

set_option maxRecDepth 100000 in
set_option maxHeartbeats 2000000 in
theorem lawOf_any (pv : Value) (p : List Int) (n d : Nat) (w : World) (hpv : IsRow w w.heap.size pv p) (h6 : p.length ≤ 6) (hpr : ∀ k, k < p.length → 2 ≤ p[k]?.getD 0 ∧ p[k]?.getD 0 ≤ 97) (hn : n < 10 ^ 13) (hd : d < 10 ^ 13) (hn0 : 0 < n) (hd0 : 0 < d) :
    Calls Tryz.prog 25 #[pv, .int .i64 n, .int .i64 d] w fun e w' => OfPost p n d e w' ∧ Below w.heap.size w w' := by
  obtain ⟨i0, hi0, hz0, hz1, hz2⟩ := info_parts Tryz.info_int
  have HN : Box (n < 10 ^ 13 ∧ 0 < n) := ⟨hn, hn0⟩
  have HD : Box (d < 10 ^ 13 ∧ 0 < d) := ⟨hd, hd0⟩
  have HPR : Box (∀ k, k < p.length → 2 ≤ p[k]?.getD 0 ∧ p[k]?.getD 0 ≤ 97) := ⟨hpr⟩
  have hn1 : ¬ (n : Int) ≤ 0 := by omega
  have HPV := Lib.hid hpv
  obtain ⟨AP, cp, rfl, _⟩ := hpv
  clear hpr hd hd0
  go_enter Tryz.func25, Tryz.ntmps25
  go_wp2_with fail
  clear hn hn0 hn1
  go_loopw [1, 2, 8, 9] (fun a b o i wr => ∃ k : Nat, k ≤ p.length ∧ i = .int .i64 k ∧ a = .int .i64 ((leftTo p n k : Nat) : Int) ∧ b = .int .i64 ((leftTo p d k : Nat) : Int) ∧ wr.ownsRow w.heap.size 3 1 o k (is (expsTo p n d k)) ∧ Below w.heap.size w wr) (fun _ _ _ i _ => p.length - (intOf i).toNat)
  case atStart => exact ⟨0, Nat.zero_le _, rfl, by rw [leftTo], by rw [leftTo], World.ownsRow_nil _ _ _ _, Below.refl _ _⟩
  case round =>
    obtain ⟨k, hk, rfl, rfl, rfl, hown, hbw⟩ := hrel
    have HO := Lib.hid hown
    clear hown
    by_cases hlt : k < p.length
    · obtain ⟨A', c', e', _, _, hr⟩ := HPV.out
      injection e' with e1 _ e3
      subst e1 e3
      obtain ⟨ad, rfl, _, hca⟩ := (hr.below hbw (Nat.le_refl _)).i_at hlt
      clear hr
      have hpk := HPR.out k hlt
      have hl1 := leftTo_le p n HN.out.2 k
      have hl2 := leftTo_le p d HD.out.2 k
      have hm1 := mult_le (p[k]?.getD 0).toNat (leftTo p n k) (by have := HN.out.1; omega)
      have hm2 := mult_le (p[k]?.getD 0).toNat (leftTo p d k) (by have := HD.out.1; omega)
      have e1 : leftTo p n (k + 1) = left (p[k]?.getD 0).toNat (leftTo p n k) := rfl
      have e2 : leftTo p d (k + 1) = left (p[k]?.getD 0).toNat (leftTo p d k) := rfl
      have e3 : expsTo p n d (k + 1) = expsTo p n d k ++ [(mult (p[k]?.getD 0).toNat (leftTo p n k) : Int) - (mult (p[k]?.getD 0).toNat (leftTo p d k) : Int)] := rfl
      generalize p[k]?.getD 0 = q0 at *
      obtain ⟨q, rfl⟩ : ∃ q : Nat, q0 = (q : Int) := ⟨q0.toNat, by omega⟩
      rw [Int.toNat_natCast] at e1 e2 e3 hm1 hm2
      have E1 := Lib.hid e1
      have E2 := Lib.hid e2
      have E3 := Lib.hid e3
      have HL1 : Box (leftTo p n k < 10 ^ 13 ∧ 0 < leftTo p n k) := ⟨by have := HN.out.1; omega, hl1.2⟩
      have HL2 : Box (leftTo p d k < 10 ^ 13 ∧ 0 < leftTo p d k) := ⟨by have := HD.out.1; omega, hl2.2⟩
      clear e1 e2 e3 hl1 hl2
      generalize leftTo p n k = N at *
      generalize leftTo p d k = D at *
      have hq0 : ((q : Int) == 0) = false := by simp; omega
      have hq1 : 2 ≤ q := by omega
      go_wp2_with fail
      go_loop [1, 10] (fun a j => ∃ m t : Nat, a = .int .i64 m ∧ j = .int .i64 (((t : Nat) : Int)) ∧ t ≤ 60 ∧ Box (m < 10 ^ 13 ∧ 0 < m) ∧ Box (mult q N = mult q m + t) ∧ Box (left q N = left q m)) (fun a _ => (intOf a).toNat)
      case atStart => exact ⟨N, 0, rfl, rfl, by omega, HL1, ⟨rfl⟩, ⟨rfl⟩⟩
      case round =>
        obtain ⟨m, t, rfl, rfl, ht, HM, HT, HF⟩ := hrel
        have HRM : Box ((m : Int) % (q : Int) = ((m % q : Nat) : Int)) := ⟨by simp⟩
        by_cases hdv : m % q = 0
        · have hyes : 2 ≤ q ∧ 0 < m ∧ m % q = 0 := ⟨hq1, HM.out.2, hdv⟩
          have hr0 : ((m : Int) % (q : Int) == 0) = true := by rw [HRM.out, hdv]; rfl
          have HT2 : Box (mult q N = mult q (m / q) + (t + 1)) := ⟨by rw [HT.out, mult_yes hyes]; omega⟩
          have HF2 : Box (left q N = left q (m / q)) := ⟨by rw [HF.out, left_yes hyes]⟩
          have hlt2 : m / q < m := Nat.div_lt_self HM.out.2 hq1
          have hpos : 0 < m / q := Nat.div_pos (Nat.le_of_dvd HM.out.2 (Nat.dvd_of_mod_eq_zero hdv)) (by omega)
          have hm13 := HM.out.1
          have ht2 : t + 1 ≤ 60 := by have := HT2.out; omega
          have HLQ : Box (m / q < m ∧ 0 < m / q ∧ m / q < 10 ^ 13) := ⟨hlt2, hpos, by omega⟩
          have HQ : Box (wrap64 ((m : Int) / (q : Int)) = ((m / q : Nat) : Int)) := ⟨wrap_nat (m / q) (by omega)⟩
          clear hyes hlt2 hpos hdv
          go_wp2_with fail
          go_round
          case rel => exact ⟨m / q, t + 1, by rw [HQ.out], by go_num, by omega, ⟨HLQ.out.2.2, HLQ.out.2.1⟩, HT2, HF2⟩
          case measure =>
            have h1 := HLQ.out.1
            rw [HQ.out]
            simp only [intOf, Int.toNat_natCast]
            exact h1
        · have hno : ¬ (2 ≤ q ∧ 0 < m ∧ m % q = 0) := fun h => hdv h.2.2
          have hr0 : ((m : Int) % (q : Int) == 0) = false := by rw [HRM.out, beq_eq_false_iff_ne]; omega
          have HT2 : Box (mult q N = t) := ⟨by rw [HT.out, mult_no hno]; omega⟩
          have HF2 : Box (left q N = m) := ⟨by rw [HF.out, left_no hno]⟩
          clear hno hdv HT HF HRM
          obtain ⟨t1, rfl⟩ : ∃ t1 : Nat, t1 = t := ⟨_, rfl⟩
          obtain ⟨m1, rfl⟩ : ∃ m1 : Nat, m1 = m := ⟨_, rfl⟩
          have HT1 := HT2
          have HF1 := HF2
          clear HT2 HF2
          go_wp2_with fail
          clear hr0
          go_loop [2, 10] (fun a j => ∃ m t : Nat, a = .int .i64 m ∧ j = .int .i64 (((t1 : Nat) : Int) - ((t : Nat) : Int)) ∧ t ≤ 60 ∧ Box (m < 10 ^ 13 ∧ 0 < m) ∧ Box (mult q D = mult q m + t) ∧ Box (left q D = left q m)) (fun a _ => (intOf a).toNat)
          case atStart => exact ⟨D, 0, rfl, by go_num, by omega, HL2, ⟨rfl⟩, ⟨rfl⟩⟩
          case round =>
            obtain ⟨m, t, rfl, rfl, ht, HM, HT, HF⟩ := hrel
            have HRM : Box ((m : Int) % (q : Int) = ((m % q : Nat) : Int)) := ⟨by simp⟩
            by_cases hdv : m % q = 0
            · have hyes : 2 ≤ q ∧ 0 < m ∧ m % q = 0 := ⟨hq1, HM.out.2, hdv⟩
              have hr0 : ((m : Int) % (q : Int) == 0) = true := by rw [HRM.out, hdv]; rfl
              have HT2 : Box (mult q D = mult q (m / q) + (t + 1)) := ⟨by rw [HT.out, mult_yes hyes]; omega⟩
              have HF2 : Box (left q D = left q (m / q)) := ⟨by rw [HF.out, left_yes hyes]⟩
              have hlt2 : m / q < m := Nat.div_lt_self HM.out.2 hq1
              have hpos : 0 < m / q := Nat.div_pos (Nat.le_of_dvd HM.out.2 (Nat.dvd_of_mod_eq_zero hdv)) (by omega)
              have hm13 := HM.out.1
              have ht2 : t + 1 ≤ 60 := by have := HT2.out; omega
              have HLQ : Box (m / q < m ∧ 0 < m / q ∧ m / q < 10 ^ 13) := ⟨hlt2, hpos, by omega⟩
              have HQ : Box (wrap64 ((m : Int) / (q : Int)) = ((m / q : Nat) : Int)) := ⟨wrap_nat (m / q) (by omega)⟩
              clear hyes hlt2 hpos hdv
              go_wp2_with fail
              go_round
              case rel => exact ⟨m / q, t + 1, by rw [HQ.out], by go_num, by omega, ⟨HLQ.out.2.2, HLQ.out.2.1⟩, HT2, HF2⟩
              case measure =>
                have h1 := HLQ.out.1
                rw [HQ.out]
                simp only [intOf, Int.toNat_natCast]
                exact h1
            · have hno : ¬ (2 ≤ q ∧ 0 < m ∧ m % q = 0) := fun h => hdv h.2.2
              have hr0 : ((m : Int) % (q : Int) == 0) = false := by rw [HRM.out, beq_eq_false_iff_ne]; omega
              have HT2 : Box (mult q D = t) := ⟨by rw [HT.out, mult_no hno]; omega⟩
              have HF2 : Box (left q D = m) := ⟨by rw [HF.out, left_no hno]⟩
              clear hno hdv HT HF HRM
              go_wp2_with (at_builtin; refine wpList_append_own _ rfl _ _ _ rfl w.heap.size 3 i0 (.int .i64 0) 1 8 Tryz.underlying24 hi0 hz0 hz1 hz2 rfl (by decide) _ _ _ rfl (HO.out.alloc _) ⟨wr.heap.size, 0, Option.none⟩ 1 1 [_] rfl rfl (cell_one_new _ _ _) (by intro u hu; simp at hu; subst hu; rfl) (by unfold maxLen; omega) (by omega) (by have := hbw.size; simp; omega) ?_; intro v3 w3 hown3 hg3 _)
              go_wp2
              go_roundw
              case rel =>
                refine ⟨k + 1, by omega, by go_num, by rw [E1.out, HF1.out], by rw [E2.out, HF2.out], ?_, ?_⟩
                · rw [E3.out, is_append, HT1.out, HT2.out]; exact hown3
                · exact (hbw.alloc (by have := hbw.size; omega) _).grown hg3 (by have := hbw.size; simp; omega) (fun k hk => (HO.out.lt k hk).1)
              case measure => simp [intOf]; omega
    · obtain rfl : k = p.length := by omega
      have hex : wr.ownsRow w.heap.size 3 1 u8 (expsTo p n d p.length).length (is (expsTo p n d p.length)) := by rw [expsTo_len]; exact HO.out
      have HRI := Lib.hid (IsRow.of_own hex)
      clear hex
      by_cases hn1 : leftTo p n p.length = 1
      · by_cases hd1 : leftTo p d p.length = 1
        · have HH : Box (leftTo p n p.length = 1 ∧ leftTo p d p.length = 1) := ⟨hn1, hd1⟩
          rw [hn1, hd1]
          clear hn1 hd1
          go_wp2_with fail
          go_ret2
          exact ⟨.inl ⟨HH.out.1, HH.out.2, _, rfl, HRI.out⟩, hbw⟩
        · have HH : Box (¬ (leftTo p n p.length = 1 ∧ leftTo p d p.length = 1)) := ⟨fun h => hd1 h.2⟩
          have hd2 : (((leftTo p d p.length : Nat) : Int) != 1) = true := by rw [bne_iff_ne]; omega
          rw [hn1]
          clear hn1 hd1
          generalize leftTo p d p.length = D at hd2 ⊢
          go_wp2_with fail
          go_ret2
          exact ⟨.inr ⟨HH.out, rfl⟩, hbw⟩
      · have HH : Box (¬ (leftTo p n p.length = 1 ∧ leftTo p d p.length = 1)) := ⟨fun h => hn1 h.1⟩
        have hd2 : (((leftTo p n p.length : Nat) : Int) != 1) = true := by rw [bne_iff_ne]; omega
        clear hn1
        go_wp2_with fail
        go_ret2
        exact ⟨.inr ⟨HH.out, rfl⟩, hbw⟩

end Go.Proofs.YtkoemgemnklmdaaGreatDoor
