/- The checks of integers: Canonical, decimal.Check, whole.Check. -/
import Derived.Test.YtkoemgemnklmdaaGreatDoorInt
namespace Go.Proofs.YtkoemgemnklmdaaGreatDoor
open Go.RowKit Go.Lib

def digB (c : UInt8) : Bool := decide (48 ≤ c.toNat ∧ c.toNat ≤ 57)
def headB (l : List UInt8) : Bool := l.length == 1 || (decide (1 < l.length) && decide ((l[0]?.getD 0).toNat ≠ 48))
def canonB (l : List UInt8) : Bool := l.all digB && headB l

theorem canonB_iff (l : List UInt8) : canonB l = true ↔ ∃ n, l = decDigits n := by
  rw [← canon_iff]
  unfold canonB headB Canon
  rw [Bool.and_eq_true, List.all_eq_true, Bool.or_eq_true, Bool.and_eq_true, beq_iff_eq, decide_eq_true_iff, decide_eq_true_iff]
  refine and_congr ⟨fun h c hc => of_decide_eq_true (h c hc), fun h c hc => decide_eq_true (h c hc)⟩ (or_congr Iff.rfl (and_congr_right fun h1 => ?_))
  match l, h1 with
  | c :: r, _ => exact ⟨fun h => ⟨c, r, rfl, h⟩, fun ⟨c', r', e, h⟩ => by cases e; exact h⟩

theorem ba_first (l : List UInt8) : ∀ h, (⟨l.toArray⟩ : ByteArray)[0]'h = l[0]?.getD 0 := by
  intro h
  cases l with
  | nil => exact absurd h (by simp [ByteArray.size])
  | cons c r => rfl

set_option maxRecDepth 100000 in
set_option maxHeartbeats 400000 in
theorem canonical_any (l : List UInt8) (w : World) (hl : l.length ≤ 1000000) :
    Calls Tryz.prog 168 #[.string ⟨l.toArray⟩] w fun e w' => e = .returned (.bool (canonB l)) ∧ Below w.heap.size w w' := by
  go_enter Tryz.func168, Tryz.ntmps168
  go_wp2_with (refine wpList_bytes _ rfl _ _ _ rfl 5 Tryz.underlying36 Tryz.underlying134 Tryz.underlying5 _ rfl l (mk_toList l) ?_; intro cap w2 hb2 hr2)
  go_loop [8] (fun i => ∃ k : Nat, k ≤ l.length ∧ i = .int .i64 k ∧ (l.take k).all digB = true) (fun i => l.length - (intOf i).toNat)
  case atStart => exact ⟨0, Nat.zero_le _, rfl, rfl⟩
  case round =>
    obtain ⟨k, hk, rfl, hall⟩ := hrel
    have HA := Lib.hid hall
    clear hall
    by_cases hlt : k < l.length
    · have hcell : w2.cell? ⟨w.heap.size, k, Option.none⟩ = some (.int .u8 (((l[k]?.getD 0).toNat : Nat) : Int)) := by
        obtain ⟨ad, e, _, hc⟩ := hr2.b_at hlt
        injection e with e
        subst e
        rw [addr0] at hc
        exact hc
      have hsucc : (l.take (k + 1)).all digB = ((l.take k).all digB && digB (l[k]?.getD 0)) := by
        rw [List.take_succ_eq_append_getElem hlt, List.all_append, List.getElem?_eq_getElem hlt]; simp
      have hfail : digB (l[k]?.getD 0) = false → canonB l = false := by
        intro h
        unfold canonB
        rw [Bool.and_eq_false_iff]
        left
        rw [List.all_eq_false]
        exact ⟨l[k], List.getElem_mem hlt, by rw [List.getElem?_eq_getElem hlt] at h; simpa using h⟩
      have hdb : digB (l[k]?.getD 0) = decide (48 ≤ (l[k]?.getD 0).toNat ∧ (l[k]?.getD 0).toNat ≤ 57) := rfl
      generalize hcc : l[k]?.getD 0 = c at *
      have HF := Lib.hid hfail
      have HS := Lib.hid hsucc
      have HD := Lib.hid hdb
      clear hfail hsucc hdb hcc hr2
      by_cases hc1 : c.toNat < 48
      · go_wp2
        go_ret
        exact ⟨by rw [HF.out (by rw [HD.out]; simp; omega)]; rfl, hb2⟩
      · by_cases hc2 : 57 < c.toNat
        · go_wp2
          go_ret
          exact ⟨by rw [HF.out (by rw [HD.out]; simp; omega)]; rfl, hb2⟩
        · go_wp2
          go_round
          case rel => exact ⟨k + 1, by omega, by go_num, by rw [HS.out, HA.out, HD.out]; simp; omega⟩
          case measure => simp [intOf]; omega
    · obtain rfl : k = l.length := by omega
      have hv : canonB l = headB l := by
        have h := HA.out
        rw [List.take_of_length_le (Nat.le_refl _)] at h
        unfold canonB
        rw [h, Bool.true_and]
      have HV := Lib.hid hv
      clear hv hr2
      have hx : ∀ h, (⟨l.toArray⟩ : ByteArray)[0]'h = l[0]?.getD 0 := ba_first l
      have hhb : headB l = (l.length == 1 || (decide (1 < l.length) && decide ((l[0]?.getD 0).toNat ≠ 48))) := rfl
      generalize hcc : l[0]?.getD 0 = c at *
      have HH := Lib.hid hhb
      clear hhb hcc
      by_cases h1 : l.length = 1
      · have h1' : ((l.length : Int) == 1) = true := by rw [h1]; rfl
        go_wp2
        go_ret
        exact ⟨ret1 (by rw [HV.out, HH.out, h1]; rfl), hb2⟩
      · have h1' : ((l.length : Int) == 1) = false := by simp; omega
        by_cases h2 : 1 < l.length
        · by_cases h3 : c.toNat = 48
          · have h3' : ((c.toNat : Int) != 48) = false := by rw [h3]; rfl
            go_wp2
            go_ret
            exact ⟨ret1 (by rw [HV.out, HH.out, h3]; simp [h1]), hb2⟩
          · have h3' : ((c.toNat : Int) != 48) = true := by simp; omega
            go_wp2
            go_ret
            exact ⟨ret1 (by rw [HV.out, HH.out]; simp [h2, h3]), hb2⟩
        · go_wp2
          go_ret
          exact ⟨ret1 (by rw [HV.out, HH.out]; simp [h1, h2]), hb2⟩

theorem decCheck_any (l : List UInt8) (w : World) (hl : l.length ≤ 1000000) :
    Calls Tryz.prog 134 #[.string ⟨l.toArray⟩] w fun e w' => e = .returned (.int .i64 (if canonB l = true ∧ l.length ≤ 400 then 0 else 2)) ∧ Below w.heap.size w w' := by
  have HC := Lib.hid (canonical_any l w hl)
  cases hb : canonB l with
  | true =>
    rw [hb] at HC
    by_cases h4 : l.length ≤ 400
    · rw [if_pos ⟨rfl, h4⟩]
      go_enter Tryz.func134, Tryz.ntmps134
      go_wp2_with (go_at_call 168; refine HC.out.mono ?_; rintro e w1 ⟨rfl, hb1⟩)
      go_ret
      exact ⟨rfl, hb1⟩
    · rw [if_neg (fun h => h4 h.2)]
      go_enter Tryz.func134, Tryz.ntmps134
      go_wp2_with (go_at_call 168; refine HC.out.mono ?_; rintro e w1 ⟨rfl, hb1⟩)
      go_ret
      exact ⟨rfl, hb1⟩
  | false =>
    rw [hb] at HC
    rw [if_neg (fun h => by cases h.1)]
    go_enter Tryz.func134, Tryz.ntmps134
    go_wp2_with (go_at_call 168; refine HC.out.mono ?_; rintro e w1 ⟨rfl, hb1⟩)
    go_ret
    exact ⟨rfl, hb1⟩

/-- A text that is an integer of at most 400 digits. -/
def intB (l : List UInt8) : Prop := ∃ z : Int, l = itoa z ∧ (decDigits z.natAbs).length ≤ 400

set_option maxHeartbeats 400000 in
theorem whCheck_neg (r : List UInt8) (w : World) (hl : r.length ≤ 100000) :
    Calls Tryz.prog 103 #[.string ⟨(45 :: r).toArray⟩] w fun e w' => e = .returned (.int .i64 (if (r == [48]) = false ∧ canonB r = true ∧ r.length ≤ 400 then 0 else 2)) ∧ Below w.heap.size w w' := by
  have HP := Lib.hid (split_neg r w (by omega))
  have HC := Lib.hid (fun W => decCheck_any r W (by omega))
  generalize (45 :: r) = l at *
  cases h0 : (r == [48]) with
  | true =>
    rw [if_neg (by simp)]
    go_enter Tryz.func103, Tryz.ntmps103
    go_wp2_with (go_at_call 76; refine HP.out.mono ?_; rintro e w1 ⟨rfl, hb1⟩)
    go_ret
    exact ⟨rfl, hb1⟩
  | false =>
    by_cases hc : canonB r = true ∧ r.length ≤ 400
    · rw [if_pos hc] at HC
      rw [if_pos ⟨rfl, hc⟩]
      clear hc
      go_enter Tryz.func103, Tryz.ntmps103
      go_wp2_with (first | (go_at_call 76; refine HP.out.mono ?_; rintro e w1 ⟨rfl, hb1⟩) | (go_at_call 134; refine (HC.out _).mono ?_; rintro e w2 ⟨rfl, hb2⟩))
      go_ret
      exact ⟨rfl, hb1.trans (hb2.mono hb1.size)⟩
    · rw [if_neg hc] at HC
      rw [if_neg (fun h => hc h.2)]
      clear hc
      go_enter Tryz.func103, Tryz.ntmps103
      go_wp2_with (first | (go_at_call 76; refine HP.out.mono ?_; rintro e w1 ⟨rfl, hb1⟩) | (go_at_call 134; refine (HC.out _).mono ?_; rintro e w2 ⟨rfl, hb2⟩))
      go_ret
      exact ⟨rfl, hb1.trans (hb2.mono hb1.size)⟩

set_option maxHeartbeats 400000 in
theorem whCheck_pos (l : List UInt8) (w : World) (hl : l.length ≤ 100000)
    (HP : Hid (Calls Tryz.prog 76 #[.string ⟨l.toArray⟩] w fun e w' => e = .returned (.tuple #[.bool false, .string ⟨l.toArray⟩]) ∧ w = w')) :
    Calls Tryz.prog 103 #[.string ⟨l.toArray⟩] w fun e w' => e = .returned (.int .i64 (if canonB l = true ∧ l.length ≤ 400 then 0 else 2)) ∧ Below w.heap.size w w' := by
  have HC := Lib.hid (decCheck_any l w (by omega))
  by_cases hc : canonB l = true ∧ l.length ≤ 400
  · rw [if_pos hc] at HC ⊢
    clear hc
    go_enter Tryz.func103, Tryz.ntmps103
    go_wp2_with (first | (go_at_call 76; refine HP.out.mono ?_; rintro e w1 ⟨rfl, rfl⟩) | (go_at_call 134; refine HC.out.mono ?_; rintro e w2 ⟨rfl, hb2⟩))
    go_ret
    exact ⟨rfl, hb2⟩
  · rw [if_neg hc] at HC ⊢
    clear hc
    go_enter Tryz.func103, Tryz.ntmps103
    go_wp2_with (first | (go_at_call 76; refine HP.out.mono ?_; rintro e w1 ⟨rfl, rfl⟩) | (go_at_call 134; refine HC.out.mono ?_; rintro e w2 ⟨rfl, hb2⟩))
    go_ret
    exact ⟨rfl, hb2⟩

theorem intB_neg (r : List UInt8) : ((r == [48]) = false ∧ canonB r = true ∧ r.length ≤ 400) ↔ intB (45 :: r) := by
  constructor
  · rintro ⟨h0, hc, hl⟩
    obtain ⟨n, rfl⟩ := (canonB_iff r).1 hc
    rw [dec_eq_zero, decide_eq_false_iff_not] at h0
    exact ⟨-(n : Int), (itoa_neg n (by omega)).symm, by simpa using hl⟩
  · rintro ⟨z, h, hl⟩
    rcases itoa_cases z with ⟨hz, e⟩ | ⟨hz, e⟩
    · rw [e] at h
      injection h with _ h
      subst h
      refine ⟨?_, (canonB_iff _).2 ⟨_, rfl⟩, hl⟩
      rw [dec_eq_zero, decide_eq_false_iff_not]
      omega
    · obtain ⟨c, r', e2, hc, _⟩ := dec_first z.natAbs
      rw [e, e2] at h
      injection h with h _
      subst h
      simp at hc

theorem intB_pos (l : List UInt8) (h : ∀ r, l ≠ 45 :: r) : (canonB l = true ∧ l.length ≤ 400) ↔ intB l := by
  constructor
  · rintro ⟨hc, hl⟩
    obtain ⟨n, rfl⟩ := (canonB_iff l).1 hc
    exact ⟨n, (itoa_nat n).symm, by simpa using hl⟩
  · rintro ⟨z, e, hl⟩
    rcases itoa_cases z with ⟨hz, e2⟩ | ⟨hz, e2⟩
    · rw [e2] at e
      exact absurd e (h _)
    · rw [e2] at e
      subst e
      exact ⟨(canonB_iff _).2 ⟨_, rfl⟩, hl⟩

theorem whCheck_split (l : List UInt8) (w : World) (hl : l.length ≤ 100000) (r : Int) (hr : (intB l ∧ r = 0) ∨ (¬ intB l ∧ r = 2)) :
    Calls Tryz.prog 103 #[.string ⟨l.toArray⟩] w fun e w' => e = .returned (.int .i64 r) ∧ Below w.heap.size w w' := by
  by_cases h45 : ∃ t, l = 45 :: t
  · obtain ⟨t, rfl⟩ := h45
    refine (whCheck_neg t w (by simp at hl; omega)).mono fun e w' ⟨he, hb⟩ => ⟨?_, hb⟩
    rw [he]
    refine ret_int ?_
    rcases hr with ⟨h, rfl⟩ | ⟨h, rfl⟩
    · rw [if_pos ((intB_neg t).2 h)]
    · rw [if_neg (fun h' => h ((intB_neg t).1 h'))]
  · have hne : ∀ t, l ≠ 45 :: t := fun t e => h45 ⟨t, e⟩
    have hsp : Calls Tryz.prog 76 #[.string ⟨l.toArray⟩] w fun e w' => e = .returned (.tuple #[.bool false, .string ⟨l.toArray⟩]) ∧ w = w' := by
      cases l with
      | nil => exact split_nil w
      | cons c t =>
        refine split_pos c t w (by simp at hl; omega) ?_
        rw [beq_eq_false_iff_ne]
        intro h
        have : c = 45 := UInt8.toNat_inj.1 (by have : (45 : UInt8).toNat = 45 := rfl; omega)
        exact hne t (by rw [this])
    refine (whCheck_pos l w hl hsp).mono fun e w' ⟨he, hb⟩ => ⟨?_, hb⟩
    rw [he]
    refine ret_int ?_
    rcases hr with ⟨h, rfl⟩ | ⟨h, rfl⟩
    · rw [if_pos ((intB_pos l hne).2 h)]
    · rw [if_neg (fun h' => h ((intB_pos l hne).1 h'))]

end Go.Proofs.YtkoemgemnklmdaaGreatDoor
