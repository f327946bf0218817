/- schismaref04.Parts. -/
import Derived.Test.YtkoemgemnklmdaaGreatDoorFrCG
namespace Go.Proofs.YtkoemgemnklmdaaGreatDoor
open Go.RowKit Go.Lib

def IntOut (l : List UInt8) (v : Value) : Prop := (∃ z : Int, l = itoa z ∧ z.natAbs < 10 ^ 13 ∧ v = .tuple #[.int .i64 z, .bool true]) ∨ (¬ intB l ∧ v = .tuple #[.int .i64 0, .bool false])

theorem itoa_nonempty (z : Int) : itoa z ≠ [] := by
  rcases itoa_cases z with ⟨_, e⟩ | ⟨_, e⟩
  · rw [e]; simp
  · rw [e]; obtain ⟨c, r, e2, _⟩ := dec_first z.natAbs; rw [e2]; simp
theorem dec13 {n : Nat} (h : (decDigits n).length ≤ 13) : n < 10 ^ 13 := Nat.lt_of_lt_of_le (dec_lt_pow n) (Nat.pow_le_pow_right (by omega) h)

theorem refInt_any (l : List UInt8) (w : World) (hl : l.length ≤ 13) :
    Calls Tryz.prog 61 #[.string ⟨l.toArray⟩] w fun e w' => ∃ v, e = .returned v ∧ IntOut l v ∧ Below w.heap.size w w' := by
  match l, hl with
  | [], _ => exact (refInt_none w).mono fun e w' ⟨h, hb⟩ => ⟨_, h, .inr ⟨fun ⟨z, hz, _⟩ => itoa_nonempty z hz.symm, rfl⟩, hb⟩
  | c :: t, hl =>
    by_cases hc : c = 45
    · subst hc
      match t, hl with
      | [], _ =>
        refine (refInt_dash w).mono fun e w' ⟨h, hb⟩ => ⟨_, h, .inr ⟨fun h => ?_, rfl⟩, hb⟩
        have := ((intB_neg []).2 h).2.1
        exact absurd this (by decide)
      | c :: t, hl =>
        refine (refInt_neg c t (c :: t) w rfl (by simp at hl ⊢; omega)).mono fun e w' ⟨h, hb⟩ => ⟨_, h, ?_, hb⟩
        have h13 : (c :: t).length ≤ 12 := by simp at hl ⊢; omega
        generalize c :: t = l at *
        by_cases h48 : (l[0]?.getD 0).toNat = 48
        · rw [negOut_zero h48]
          refine .inr ⟨fun h => ?_, rfl⟩
          obtain ⟨h1, h2, _⟩ := (intB_neg l).2 h
          by_cases hlen : 1 < l.length
          · rw [canon_zero hlen h48] at h2; cases h2
          · match l, hlen, h48, h1, h2 with
            | [], _, _, _, h2 => exact absurd h2 (by decide)
            | [x], _, h48, h1, _ =>
              have : x = 48 := UInt8.toNat_inj.1 h48
              subst this
              cases h1
            | _ :: _ :: _, hlen, _, _, _ => simp at hlen
        · rw [negOut_other h48]
          by_cases hcb : canonB l = true
          · rw [posOut_yes hcb]
            obtain ⟨n, rfl⟩ := (canonB_iff l).1 hcb
            have hn0 : 1 ≤ n := by
              rcases Nat.eq_zero_or_pos n with h0 | h0
              · subst h0; rw [dec_small (by omega)] at h48; exact absurd rfl h48
              · exact h0
            rw [dval_dec]
            refine .inl ⟨-(n : Int), (itoa_neg n hn0).symm, ?_, by rw [Int.neg_mul, Int.one_mul]⟩
            have := dec13 (n := n) (by omega)
            omega
          · rw [posOut_no (by simpa using hcb)]
            exact .inr ⟨fun h => hcb ((intB_neg l).2 h).2.1, rfl⟩
    · have hne : ∀ r, c :: t ≠ 45 :: r := fun r e => hc (by injection e)
      refine (refInt_pos c t (c :: t) w rfl hl (by rw [beq_eq_false_iff_ne]; intro h; exact hc (UInt8.toNat_inj.1 (by have : (45 : UInt8).toNat = 45 := rfl; omega)))).mono fun e w' ⟨h, hb⟩ => ⟨_, h, ?_, hb⟩
      generalize c :: t = l at *
      by_cases hcb : canonB l = true
      · rw [posOut_yes hcb]
        obtain ⟨n, rfl⟩ := (canonB_iff l).1 hcb
        rw [dval_dec]
        refine .inl ⟨(n : Int), (itoa_nat n).symm, ?_, by rw [Int.one_mul]⟩
        have := dec13 (n := n) hl
        omega
      · rw [posOut_no (by simpa using hcb)]
        exact .inr ⟨fun h => hcb ((intB_pos l hne).2 h).1, rfl⟩

/-- What Parts returns. -/
def PartsOut (a b : List UInt8) (v : Value) : Prop :=
  (∃ n d : Int, a = itoa n ∧ b = itoa d ∧ n.natAbs < 10 ^ 13 ∧ d.natAbs < 10 ^ 13 ∧ 0 < d ∧ Nat.gcd n.natAbs d.natAbs = 1 ∧ v = .tuple #[.int .i64 n, .int .i64 d, .bool true]) ∨
  (¬ FracB a b ∧ v = .tuple #[.int .i64 0, .int .i64 0, .bool false])

theorem frac_intB {a b : List UInt8} (h : FracB a b) : intB a ∧ intB b := by
  obtain ⟨n, d, h1, h2, h3, h4, _⟩ := h
  exact ⟨⟨n, h1, h3⟩, ⟨d, h2, h4⟩⟩
theorem itoa_inj {n m : Int} (h : itoa n = itoa m) : n = m := by
  rcases itoa_cases n with ⟨hn, e⟩ | ⟨hn, e⟩ <;> rcases itoa_cases m with ⟨hm, e2⟩ | ⟨hm, e2⟩
  · rw [e, e2] at h
    injection h with _ h
    have := congrArg (dval 0) h
    rw [dval_dec, dval_dec] at this
    omega
  · rw [e, e2] at h
    obtain ⟨c, r, e3, hc, _⟩ := dec_first m.natAbs
    rw [e3] at h
    injection h with h _
    subst h
    simp at hc
  · rw [e, e2] at h
    obtain ⟨c, r, e3, hc, _⟩ := dec_first n.natAbs
    rw [e3] at h
    injection h with h _
    subst h
    simp at hc
  · rw [e, e2] at h
    have := congrArg (dval 0) h
    rw [dval_dec, dval_dec] at this
    omega

set_option maxRecDepth 100000 in
set_option maxHeartbeats 2000000 in
theorem parts_any (a b : List UInt8) (w : World) (ha : a.length ≤ 13) (hb : b.length ≤ 13) :
    Calls Tryz.prog 24 #[.agg #[.string ⟨a.toArray⟩, .string ⟨b.toArray⟩]] w fun e w' => ∃ v, e = .returned v ∧ PartsOut a b v ∧ Below w.heap.size w w' := by
  have HA := Lib.hid (fun W => refInt_any a W ha)
  have HB := Lib.hid (fun W => refInt_any b W hb)
  go_enter Tryz.func24, Tryz.ntmps24
  go_wp2_with fail
  refine (HA.out _).mono ?_
  rintro e w1 ⟨v, rfl, h1, hb1⟩
  rw [World.size_alloc] at hb1
  have H1 : Box (IntOut a v) := ⟨h1⟩
  clear h1
  obtain ⟨q0, q1⟩ := rat_cells hb1
  rcases H1.out with ⟨n, e1, hn, rfl⟩ | ⟨hno, rfl⟩
  · have HN : Box (a = itoa n ∧ n.natAbs < 10 ^ 13) := ⟨e1, hn⟩
    clear e1 hn H1
    go_wp2_with fail
    refine (HB.out _).mono ?_
    rintro e w2 ⟨v, rfl, h1, hb2⟩
    have hb12 := hb1.trans (hb2.mono (by have := hb1.size; simp at this; omega))
    clear q0 q1 hb1 hb2
    rcases h1 with ⟨d, e1, hd, rfl⟩ | ⟨hno, rfl⟩
    · have HD : Box (b = itoa d ∧ d.natAbs < 10 ^ 13) := ⟨e1, hd⟩
      clear e1 hd
      by_cases hd0 : 0 < d
      · have HG := Lib.hid (fun W => refGcd_any n d W (by have := HN.out.2; omega) (by have := HD.out.2; omega))
        go_wp2_with fail
        refine (HG.out _).mono ?_
        rintro e w3 ⟨rfl, hb3⟩
        have hb13 := hb12.trans (hb3.mono (by have := hb12.size; simp at this; omega))
        have HGG : Box (Nat.gcd n.natAbs d.natAbs = Nat.gcd n.natAbs d.natAbs ∧ True) := ⟨rfl, trivial⟩
        by_cases hg : Nat.gcd n.natAbs d.natAbs = 1
        · rw [hg]
          go_wp2_with fail
          go_ret3
          exact ⟨_, rfl, .inl ⟨n, d, HN.out.1, HD.out.1, HN.out.2, HD.out.2, hd0, hg, rfl⟩, below_result hb13⟩
        · have hg1 : (((Nat.gcd n.natAbs d.natAbs : Nat) : Int) != 1) = true := by rw [bne_iff_ne]; omega
          have HGN : Box (¬ FracB a b) := ⟨fun ⟨n', d', e1, e2, _, _, _, hg'⟩ => by
            rw [HN.out.1] at e1
            rw [HD.out.1] at e2
            rw [← itoa_inj e1, ← itoa_inj e2] at hg'
            exact hg hg'⟩
          generalize Nat.gcd n.natAbs d.natAbs = g at *
          go_wp2_with fail
          go_ret3
          exact ⟨_, rfl, .inr ⟨HGN.out, rfl⟩, below_result hb13⟩
      · have hd1 : d ≤ 0 := by omega
        have HGN : Box (¬ FracB a b) := ⟨fun ⟨n', d', e1, e2, _, _, h0, _⟩ => by
          rw [HD.out.1] at e2
          rw [← itoa_inj e2] at h0
          omega⟩
        clear hd0
        go_wp2_with fail
        go_ret3
        exact ⟨_, rfl, .inr ⟨HGN.out, rfl⟩, below_result hb12⟩
    · have HGN : Box (¬ FracB a b) := ⟨fun h => hno (frac_intB h).2⟩
      clear hno
      go_wp2_with fail
      go_ret3
      exact ⟨_, rfl, .inr ⟨HGN.out, rfl⟩, below_result hb12⟩
  · have HGN : Box (¬ FracB a b) := ⟨fun h => hno (frac_intB h).1⟩
    clear hno H1
    go_wp2_with fail
    refine (HB.out _).mono ?_
    rintro e w2 ⟨v, rfl, h1, hb2⟩
    have hb12 := hb1.trans (hb2.mono (by have := hb1.size; simp at this; omega))
    clear q0 q1 hb1 hb2
    rcases h1 with ⟨d, e1, hd, rfl⟩ | ⟨hno, rfl⟩
    · clear e1 hd
      go_wp2_with fail
      go_ret3
      exact ⟨_, rfl, .inr ⟨HGN.out, rfl⟩, below_result hb12⟩
    · clear hno
      go_wp2_with fail
      go_ret3
      exact ⟨_, rfl, .inr ⟨HGN.out, rfl⟩, below_result hb12⟩

end Go.Proofs.YtkoemgemnklmdaaGreatDoor
