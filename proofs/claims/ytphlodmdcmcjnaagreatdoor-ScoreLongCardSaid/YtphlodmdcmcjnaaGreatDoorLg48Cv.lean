/- The plain law of ScoreLong: a score with one voice of n events with k unisons over 2. -/
import Derived.Test.YtphlodmdcmcjnaaGreatDoorGXLCv
namespace Go.Proofs.YtphlodmdcmcjnaaGreatDoor
open Go.RowKit Go.Lib

def lgEv (k : Nat) : Ev := ⟨[49], [50], List.replicate k [0]⟩
def lgSc (n k : Nat) : Sc := ⟨[2], [⟨[97], List.replicate n (lgEv k)⟩]⟩
theorem rowsErr_rep {m : Nat} {x : List Int} (h : rowErr m x = 0) : ∀ n, rowsErr m (List.replicate n x) = 0
  | 0 => rfl
  | n + 1 => by rw [List.replicate_succ, rowsErr, if_neg (by rw [h]; simp), rowsErr_rep h n]
theorem evsErr_rep {p : List Int} {x : Ev} (h : evErr p x = 0) : ∀ n, evsErr p (List.replicate n x) = 0
  | 0 => rfl
  | n + 1 => by rw [List.replicate_succ, evsErr, if_neg (by rw [h]; simp), evsErr_rep h n]
theorem prime_two : primeErr [2] = 0 := by decide +kernel
theorem row_zero : rowErr 1 [0] = 0 := by decide +kernel
theorem itoa_12 : ([49] : List UInt8) = itoa 1 ∧ ([50] : List UInt8) = itoa 2 := by decide +kernel
theorem lgEv_err {k : Nat} (hk : k ≤ 12) : evErr [2] (lgEv k) = 0 := by
  have h1 : FracB (lgEv k).num (lgEv k).den := ⟨1, 2, itoa_12.1, itoa_12.2, by decide +kernel, by decide +kernel, by decide, by decide⟩
  have h2 : ∃ n : Int, (lgEv k).num = itoa n ∧ 0 < n := ⟨1, itoa_12.1, by decide⟩
  have h3 : (lgEv k).notes.length = k := List.length_replicate
  unfold evErr
  rw [if_pos h1, if_pos h2, if_neg (by rw [h3]; omega)]
  unfold chkAll
  rw [if_neg (by rw [prime_two]; simp)]
  exact rowsErr_rep row_zero k
theorem lgSc_err {n k : Nat} (hn : n ≤ 500) (hk : k ≤ 12) : scErr (lgSc n k) = 0 := by
  have h1 : nameB [97] = true := by decide +kernel
  have h2 : vcErr [2] [] ⟨[97], List.replicate n (lgEv k)⟩ = 0 := by
    unfold vcErr
    show (if nameB [97] = true then (if (List.any [] fun w => Vc.name w == [97]) = true then (9 : Int) else if 500 < (List.replicate n (lgEv k)).length then 4 else evsErr [2] (List.replicate n (lgEv k))) else 8) = 0
    rw [if_pos h1, if_neg (by simp), if_neg (by rw [List.length_replicate]; omega)]
    exact evsErr_rep (lgEv_err hk) n
  have h3 : vcsErr [2] [] [⟨[97], List.replicate n (lgEv k)⟩] = 0 := by
    rw [vcsErr, if_neg (by rw [h2]; simp)]
    rfl
  have h4 : (lgSc n k).primes = [2] := rfl
  have h5 : (lgSc n k).voices = [⟨[97], List.replicate n (lgEv k)⟩] := rfl
  unfold scErr
  rw [h4, h5, if_neg (by rw [prime_two]; simp), if_neg (by simp), h3]
theorem lgSc_sm {n k : Nat} (hn : n ≤ 500) (hk : k ≤ 12) : ScSm (lgSc n k) where
  vcs := by show 1 ≤ _; decide
  names := fun v hv => by
    obtain rfl : v = ⟨[97], List.replicate n (lgEv k)⟩ := List.mem_singleton.1 hv
    show 1 ≤ _
    decide
  evs := fun v hv => by
    obtain rfl : v = ⟨[97], List.replicate n (lgEv k)⟩ := List.mem_singleton.1 hv
    show (List.replicate n (lgEv k)).length ≤ _
    rw [List.length_replicate]
    omega
  nums := fun v hv x hx => by
    obtain rfl : v = ⟨[97], List.replicate n (lgEv k)⟩ := List.mem_singleton.1 hv
    obtain rfl := List.eq_of_mem_replicate hx
    exact ⟨by show 1 ≤ _; decide, by show 1 ≤ _; decide, by show (List.replicate k _).length ≤ _; rw [List.length_replicate]; omega⟩
theorem join_len_rep (x : List UInt8) : ∀ (k : Nat) (a : List UInt8), (Lib.join (a :: List.replicate k x) [32]).length = a.length + k * (x.length + 1)
  | 0, a => by rw [List.replicate_zero, Lib.join_one]; omega
  | k + 1, a => by
    rw [List.replicate_succ, joinC_more, List.length_append, List.length_cons, join_len_rep x k x, Nat.add_mul]
    omega
theorem lg_evW (k : Nat) : evW (lgEv k) = [49, 47, 50] :: [58] :: List.replicate k [91, 48, 62] := by
  have h : ketT [0] = [91, 48, 62] := by decide +kernel
  unfold evW
  rw [show (lgEv k).notes = List.replicate k [0] from rfl, List.map_replicate, h]
  rfl
theorem lg_evT (k : Nat) : (lnT (evW (lgEv k))).length = 6 + 4 * k := by
  have h := join_len_rep [91, 48, 62] k [58]
  rw [lnT_len, lg_evW, joinC_more, List.length_append]
  simp only [List.length_cons, List.length_nil] at h ⊢
  omega
theorem lg_len (n k : Nat) : lnsN (scL (lgSc n k)) = 6 + n * (3 + k) ∧ (lnsT (scL (lgSc n k))).length = 17 + n * (6 + 4 * k) := by
  have e : scL (lgSc n k) = [prW [2], vcHd ⟨[97], List.replicate n (lgEv k)⟩] ++ List.replicate n (evW (lgEv k)) := by
    unfold scL lgSc vcL
    simp
  have h1 : lnsN [prW [2], vcHd ⟨[97], List.replicate n (lgEv k)⟩] = 6 := rfl
  have h2 : (lnsT [prW [2], vcHd ⟨[97], List.replicate n (lgEv k)⟩]).length = 17 := by
    have : lnsT [prW [2], vcHd ⟨[97], List.replicate n (lgEv k)⟩] = lnsT [prW [2], [[118, 111, 105, 99, 101], [97]]] := rfl
    rw [this]
    decide +kernel
  have h3 : ∀ m, lnsN (List.replicate m (evW (lgEv k))) = m * (3 + k) ∧ (lnsT (List.replicate m (evW (lgEv k)))).length = m * (6 + 4 * k) := by
    intro m
    induction m with
    | zero => simp [lnsN, lnsT]
    | succ m ih =>
      have e2 : List.replicate (m + 1) (evW (lgEv k)) = [evW (lgEv k)] ++ List.replicate m (evW (lgEv k)) := by rw [List.replicate_succ]; rfl
      rw [e2, lnsN_append, lnsT_append, List.length_append, ih.1, ih.2, lnsN_one, lnsT_one, lg_evT, Nat.add_mul, Nat.add_mul]
      have h4 : (evW (lgEv k)).length = k + 2 := by rw [lg_evW]; simp
      rw [h4]
      exact ⟨by omega, by omega⟩
  rw [e, lnsN_append, lnsT_append, List.length_append, h1, h2, (h3 n).1, (h3 n).2]
  exact ⟨rfl, rfl⟩
/-- What Print answers. -/
theorem lg_out (n k : Nat) : (4000 < 6 + n * (3 + k) ∧ prOut (lgSc n k) = .tuple #[.string ⟨#[]⟩, .int .i64 4]) ∨ (6 + n * (3 + k) ≤ 4000 ∧ ∃ t : List UInt8, t.length = 17 + n * (6 + 4 * k) ∧ prOut (lgSc n k) = .tuple #[.string ⟨t.toArray⟩, .int .i64 0]) := by
  obtain ⟨h1, h2⟩ := lg_len n k
  unfold prOut
  by_cases h : 4000 < 6 + n * (3 + k)
  · exact .inl ⟨h, by rw [if_pos (by rw [h1]; exact h)]⟩
  · have h3 : n * (6 + 4 * k) ≤ 4 * (n * (3 + k)) := by
      rw [Nat.mul_left_comm]
      exact Nat.mul_le_mul_left n (by omega)
    exact .inr ⟨by omega, _, h2, by rw [if_neg (by rw [h1]; exact h), if_neg (by rw [h2]; omega)]⟩
theorem lg_bd {n k : Nat} (hn : n ≤ 500) (hk : k ≤ 12) : (lnsT (scL (lgSc n k))).length ≤ 1000000 ∧ lnsN (scL (lgSc n k)) ≤ 1000000 := by
  obtain ⟨h1, h2⟩ := lg_len n k
  have h3 : n * (3 + k) ≤ 500 * 15 := Nat.mul_le_mul hn (by omega)
  have h4 : n * (6 + 4 * k) ≤ 500 * 54 := Nat.mul_le_mul hn (by omega)
  rw [h1, h2]
  omega

end Go.Proofs.YtphlodmdcmcjnaaGreatDoor
