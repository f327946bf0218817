/- decimal: trim. -/
import Derived.Test.YtkoemgemnklmdaaGreatDoorProg
import Derived.Test.YtkoemgemnklmdaaGreatDoorMem
import Derived.Test.YtkoemgemnklmdaaGreatDoorPcs
namespace Go.Proofs.YtkoemgemnklmdaaGreatDoor
open Go.RowKit

theorem trim_len (l : List Nat) (k n : Nat) (hl : Pcs l) (hn' : l.length = n) (hk : k ≤ n) (hz : ∀ j, k ≤ j → j < n → l[j]?.getD 0 = 0) (hn : k = 0 ∨ l[k - 1]?.getD 0 ≠ 0) : k = (pcs (pv l)).length := by
  subst hn'
  rw [← trim_eq l k hl hk hz hn, List.length_take, Nat.min_eq_left hk]
theorem ret_slice {A : Option Addr} {n m c : Nat} (h : n = m) : Ending.returned (.slice A n c) = .returned (.slice A m c) := by rw [h]

set_option maxHeartbeats 400000 in
theorem trim_any (A : Option Addr) (n c B : Nat) (l : List Nat) (w : World) (hr : Row w B 1 A n (us l)) (hn : n ≤ c) (hc : c ≤ maxLen) (hp : Pcs l) :
    Calls Tryz.prog 109 #[.slice A n c] w fun e w' => e = .returned (.slice A (pcs (pv l)).length c) ∧ w = w' := by
  unfold maxLen at hc
  have hlen : l.length = n := by have := hr.len; rw [us_length] at this; omega
  have HL := Lib.hid hlen
  clear hlen
  go_enter Tryz.func109, Tryz.ntmps109
  go_wp2
  go_loop [0] (fun v => ∃ k, k ≤ n ∧ v = .slice A k c ∧ ∀ j, k ≤ j → j < n → l[j]?.getD 0 = 0) (fun v => lenV v)
  case atStart => exact ⟨n, Nat.le_refl _, rfl, fun j h1 h2 => by omega⟩
  case round =>
    obtain ⟨k, hk, rfl, hz⟩ := hrel
    have HZ := Lib.hid hz
    clear hz
    by_cases h0 : k = 0
    · subst h0
      clear hr
      go_wp2
      go_ret
      exact ⟨ret_slice (trim_len l 0 n hp HL.out (by omega) HZ.out (.inl rfl)), rfl⟩
    · obtain ⟨ad, rfl, _, hcell⟩ := hr.u_at (k := k - 1) (by omega)
      clear hr
      generalize hx : l[k - 1]?.getD 0 = x at hcell
      have HX := Lib.hid hx
      clear hx
      have hk1 : 1 ≤ k := by omega
      by_cases hv : x = 0
      · subst hv
        go_wp2
        go_round
        case rel =>
          refine ⟨k - 1, by omega, by go_num, fun j h1 h2 => ?_⟩
          by_cases hj : j = k - 1
          · rw [hj]; exact HX.out
          · exact HZ.out j (by omega) h2
        case measure => simp [lenV]; omega
      · have hx0 : (((x : Nat) : Int) == 0) = false := by simp; omega
        go_wp2
        go_ret
        exact ⟨ret_slice (trim_len l k n hp HL.out hk HZ.out (.inr (by rw [HX.out]; exact hv))), rfl⟩

end Go.Proofs.YtkoemgemnklmdaaGreatDoor
