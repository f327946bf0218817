/- decimal: Mul, Compare. -/
import Derived.Test.YtkoemgemnklmdaaGreatDoorWh
namespace Go.Proofs.YtkoemgemnklmdaaGreatDoor
open Go.RowKit Go.Lib

theorem pcs_len_le : ∀ (k x : Nat), x < 1000000000 ^ k → (pcs x).length ≤ k
  | 0, x, h => by simp at h; subst h; rw [pcs_zero]; simp
  | k + 1, x, h => by
    rcases Nat.eq_zero_or_pos x with h0 | h0
    · subst h0; rw [pcs_zero]; simp
    · rw [pcs_pos h0, List.length_cons]
      have := pcs_len_le k (x / 1000000000) (by rw [Nat.pow_succ] at h; omega)
      omega

theorem pcs_le_dec (a : Nat) : (pcs a).length ≤ (decDigits a).length := by
  refine pcs_len_le _ _ (Nat.lt_of_lt_of_le (dec_lt_pow a) ?_)
  exact Nat.pow_le_pow_left (by omega) _

theorem mk_toList (l : List UInt8) : (⟨l.toArray⟩ : ByteArray).data.toList = l := rfl
theorem mk_size (l : List UInt8) : (⟨l.toArray⟩ : ByteArray).size = l.length := by simp [ByteArray.size]

theorem cut_dec (a : Nat) (w : World) (ha : (decDigits a).length ≤ 1000000) :
    Calls Tryz.prog 67 #[.string ⟨(decDigits a).toArray⟩] w fun e w' => OwnP w.heap.size a w' e ∧ Below w.heap.size w w' := by
  have := cut_any ⟨(decDigits a).toArray⟩ w (dec_dig a) (by rw [mk_size]; exact ha)
  rw [mk_toList, dval_dec] at this
  exact this

/-- A row of the call's own that holds the pieces of x. -/
def PcsRow (w : World) (base : Nat) (v : Value) (x : Nat) : Prop := w.ownsRow base 101 1 v (pcs x).length (us (pcs x))

theorem times_own (v1 v2 : Value) (b1 b2 x y : Nat) (w : World) (h1 : PcsRow w b1 v1 x) (h2 : PcsRow w b2 v2 y) (l1 : (pcs x).length ≤ 1000000) (l2 : (pcs y).length ≤ 1000000) :
    Calls Tryz.prog 68 #[v1, v2] w fun e w' => OwnP w.heap.size (x * y) w' e ∧ Below w.heap.size w w' := by
  obtain ⟨A1, c1, rfl, _, _, r1⟩ := Row.of_own h1
  obtain ⟨A2, c2, rfl, _, _, r2⟩ := Row.of_own h2
  have := times_any A1 A2 _ _ c1 c2 (pcs x) (pcs y) w r1 r2 (pcs_lt x) (pcs_lt y) l1 l2
  rw [pv_pcs, pv_pcs] at this
  exact this

theorem text_own (v : Value) (b x : Nat) (w : World) (h : PcsRow w b v x) (l : (pcs x).length ≤ 1000000) :
    Calls Tryz.prog 69 #[v] w fun e w' => e = .returned (.string ⟨(decDigits x).toArray⟩) ∧ Below w.heap.size w w' := by
  obtain ⟨A1, c1, rfl, _, _, r1⟩ := Row.of_own h
  exact text_any A1 _ c1 x w r1 l

theorem PcsRow.below {w w' : World} {b x : Nat} {v : Value} (h : PcsRow w b v x) (hb : Below w.heap.size w w') : PcsRow w' b v x := own_below h hb

theorem pcs_mul_len (a b m : Nat) (ha : (pcs a).length + (pcs b).length ≤ m) : (pcs (a * b)).length ≤ m := by
  refine pcs_len_le _ _ ?_
  have h1 := pv_lt _ (pcs_lt a)
  have h2 := pv_lt _ (pcs_lt b)
  rw [pv_pcs] at h1 h2
  have h3 : a * b < 1000000000 ^ ((pcs a).length + (pcs b).length) := by
    rw [Nat.pow_add]
    exact Nat.mul_lt_mul'' h1 h2
  exact Nat.lt_of_lt_of_le h3 (Nat.pow_le_pow_right (by omega) ha)

set_option maxHeartbeats 400000 in
theorem mul_small (a b : Nat) (l r : List UInt8) (w : World) (h18 : l.length + r.length ≤ 18) (HS : Hid (Std w)) (H1 : Box ((a : Int) * (b : Int) < 1000000000000000000)) (H0 : Box (0 ≤ (a : Int) * (b : Int)))
    (HB : Hid (∀ W, Calls Tryz.prog 111 #[.string ⟨l.toArray⟩, .string ⟨r.toArray⟩] W fun e w' => e = .returned (.tuple #[.int .u64 a, .int .u64 b, .bool true]) ∧ Below W.heap.size W w'))
    (HO : Hid (∀ W, Std W → Calls Tryz.prog 105 #[.int .u64 ((a * b : Nat) : Int)] W fun e w' => e = .returned (.string ⟨(decDigits (a * b)).toArray⟩) ∧ Below W.heap.size W w')) :
    Calls Tryz.prog 72 #[.string ⟨l.toArray⟩, .string ⟨r.toArray⟩] w fun e w' => e = .returned (.string ⟨(decDigits (a * b)).toArray⟩) ∧ Below w.heap.size w w' := by
  go_enter Tryz.func72, Tryz.ntmps72
  go_wp2_with fail
  refine (HB.out _).mono ?_
  rintro e w1 ⟨rfl, hb1⟩
  have hab1 := H1.out
  have hab0 := H0.out
  go_wp2_with fail
  rw [← Int.natCast_mul]
  refine (HO.out _ (HS.out.below hb1 (Nat.le_refl _))).mono ?_
  rintro e w2 ⟨rfl, hb2⟩
  go_wp2_with fail
  go_ret
  exact ⟨rfl, hb1.trans (hb2.mono hb1.size)⟩

set_option maxHeartbeats 400000 in
theorem mul_big (a b : Nat) (l r : List UInt8) (w : World) (h18 : ¬ l.length + r.length ≤ 18) (la : l.length ≤ 100000) (lb : r.length ≤ 100000) (pa : (pcs a).length ≤ 100000) (pb : (pcs b).length ≤ 100000)
    (HA : Hid (∀ W, Calls Tryz.prog 67 #[.string ⟨l.toArray⟩] W fun e w' => OwnP W.heap.size a w' e ∧ Below W.heap.size W w'))
    (HB : Hid (∀ W, Calls Tryz.prog 67 #[.string ⟨r.toArray⟩] W fun e w' => OwnP W.heap.size b w' e ∧ Below W.heap.size W w')) :
    Calls Tryz.prog 72 #[.string ⟨l.toArray⟩, .string ⟨r.toArray⟩] w fun e w' => e = .returned (.string ⟨(decDigits (a * b)).toArray⟩) ∧ Below w.heap.size w w' := by
  go_enter Tryz.func72, Tryz.ntmps72
  go_wp2_with fail
  refine (HA.out _).mono ?_
  rintro e w1 ⟨⟨v1, rfl, hv1⟩, hb1⟩
  go_wp2_with fail
  refine (HB.out _).mono ?_
  rintro e w2 ⟨⟨v2, rfl, hv2⟩, hb2⟩
  go_wp2_with fail
  refine (times_own v1 v2 _ _ a b _ (own_below hv1 hb2) hv2 (by omega) (by omega)).mono ?_
  rintro e w3 ⟨⟨v3, rfl, hv3⟩, hb3⟩
  go_wp2_with fail
  refine (text_own v3 _ (a * b) _ hv3 (pcs_mul_len a b _ (by omega))).mono ?_
  rintro e w4 ⟨rfl, hb4⟩
  go_wp2_with fail
  go_ret
  exact ⟨rfl, ((hb1.trans (hb2.mono hb1.size)).trans (hb3.mono (Nat.le_trans hb1.size hb2.size))).trans (hb4.mono (Nat.le_trans hb1.size (Nat.le_trans hb2.size hb3.size)))⟩

theorem mul_any (a b : Nat) (w : World) (hS : Std w) (ha : (decDigits a).length ≤ 100000) (hb : (decDigits b).length ≤ 100000) :
    Calls Tryz.prog 72 #[.string ⟨(decDigits a).toArray⟩, .string ⟨(decDigits b).toArray⟩] w fun e w' => e = .returned (.string ⟨(decDigits (a * b)).toArray⟩) ∧ Below w.heap.size w w' := by
  by_cases h18 : (decDigits a).length + (decDigits b).length ≤ 18
  · have hab : a * b < 10 ^ 18 := by
      have h3 : a * b < 10 ^ ((decDigits a).length + (decDigits b).length) := by
        rw [Nat.pow_add]
        exact Nat.mul_lt_mul'' (dec_lt_pow a) (dec_lt_pow b)
      exact Nat.lt_of_lt_of_le h3 (Nat.pow_le_pow_right (by omega) h18)
    exact mul_small a b _ _ w h18 hS ⟨by rw [← Int.natCast_mul]; omega⟩ ⟨by rw [← Int.natCast_mul]; omega⟩ (fun W => both_yes a b W (by omega) (by omega)) (fun W hW => decOf_any (a * b) W (by omega) hW)
  · exact mul_big a b _ _ w h18 ha hb (Nat.le_trans (pcs_le_dec a) ha) (Nat.le_trans (pcs_le_dec b) hb) (fun W => cut_dec a W (by omega)) (fun W => cut_dec b W (by omega))

end Go.Proofs.YtkoemgemnklmdaaGreatDoor
