import Derived.Test.YtaaeekahhhookaaGreatDoorGTHMCk
import Derived.Test.YtaaeekahhhookaaGreatDoorGGMCk
import Derived.Test.YtaaeekahhhookaaGreatDoorREqCk
namespace Go.Proofs.YtaaeekahhhookaaGreatDoor
open Go.RowKit Go.Lib
theorem rows_pl {w : World} {B : Nat} {A : Option Addr} {l : List (List Int)} {k : Nat} {x : List Int} (h : RowsAt w B A l) (hx : l[k]? = some x) : ∃ b o v, A = some ⟨b, o, Option.none⟩ ∧ b < B ∧ w.cell? ⟨b, o + k, Option.none⟩ = some v ∧ IsRow w B v x := by
 have hk := (List.getElem?_eq_some_iff.1 hx).1
 obtain ⟨ad0, v0, e0, _, h0, _⟩ := h.get 0 l[0] (List.getElem?_eq_getElem (by omega))
 rw [show ad0.add 0 = ad0 by unfold Addr.add; simp] at h0
 obtain ⟨b, o, rfl⟩ := addr_plain h0
 obtain ⟨ad, v, e, h1, h2, h3⟩ := h.get k x hx
 rw [e0] at e
 cases e
 rw [Lib.add_plain] at h2
 exact ⟨b, o, v, e0, h1, h2, h3⟩
def rowsEq (l m : List (List Int)) : Bool := decide (l = m)
theorem rowsEq_len {l m : List (List Int)} (h : l.length ≠ m.length) : rowsEq l m = false := decide_eq_false fun e => h (by rw [e])
theorem rowsEq_drop {l m : List (List Int)} {k : Nat} (h1 : k < l.length) (h2 : k < m.length) : rowsEq (l.drop k) (m.drop k) = (sameB (l[k]'h1) (m[k]'h2) && rowsEq (l.drop (k + 1)) (m.drop (k + 1))) := by
 rw [List.drop_eq_getElem_cons h1, List.drop_eq_getElem_cons h2]
 unfold rowsEq sameB
 generalize l[k]'h1 = a
 generalize m[k]'h2 = b
 generalize List.drop (k + 1) l = s
 generalize List.drop (k + 1) m = t
 by_cases e1 : a = b
 ·by_cases e2 : s = t
  ·simp [e1, e2]
  ·simp [e1, e2]
 ·simp [e1]
set_option maxRecDepth 100000 in
set_option maxHeartbeats 2000000 in
theorem eqFunc_row (A1 A2 : Option Addr) (c1 c2 : Nat) (l m : List (List Int)) (w : World) (h1 : RowsAt w w.heap.size A1 l) (h2 : RowsAt w w.heap.size A2 m) (hl : l.length ≤ 1000000) :
  Calls Tryz.prog 50 #[.slice A1 l.length c1, .slice A2 m.length c2, .func (.func 51) #[] #[]] w fun e w' => e = .returned (.bool (rowsEq l m)) ∧ Below w.heap.size w w' := by
 have H1 : Box (RowsAt w w.heap.size A1 l) := ⟨h1⟩
 have H2 : Box (RowsAt w w.heap.size A2 m) := ⟨h2⟩
 clear h1 h2
 by_cases hlm : l.length = m.length
 ·have hne : ((l.length : Int) != (m.length : Int)) = false := by simp [hlm]
  have HLM : Box (l.length = m.length) := ⟨hlm⟩
  clear hlm
  obtain ⟨out, HO⟩ : ∃ out, Box (rowsEq (l.drop 0) (m.drop 0) = out ∧ rowsEq l m = out) := ⟨_, ⟨rfl, rfl⟩⟩
  rw [HO.out.2]
  go_enter Tryz.func50, Tryz.ntmps50
  go_wp2_with fail
  go_loopw [17] (fun i wr => ∃ k : Nat, k ≤ l.length ∧ i = .int .i64 k ∧ Box (rowsEq (l.drop k) (m.drop k) = out) ∧ Below w.heap.size w wr) (fun i _ => l.length - (intOf i).toNat)
  case atStart => exact ⟨0, Nat.zero_le _, rfl, ⟨HO.out.1⟩, Below.refl _ _⟩
  case round =>
   obtain ⟨k, hk, rfl, HK, hbw⟩ := hrel
   by_cases hlt : k < l.length
   ·have hlt2 : k < m.length := by rw [← HLM.out]; exact hlt
    obtain ⟨b1, o1, r1, rfl, hb1, hc1, hr1⟩ := rows_pl H1.out (List.getElem?_eq_getElem hlt)
    obtain ⟨b2, o2, r2, rfl, hb2, hc2, hr2⟩ := rows_pl H2.out (List.getElem?_eq_getElem hlt2)
    have p1 := (hbw.cell (p := ⟨b1, o1 + k, Option.none⟩) hb1).trans hc1
    have p2 := (hbw.cell (p := ⟨b2, o2 + k, Option.none⟩) hb2).trans hc2
    have HS : Box (out = (sameB (l[k]'hlt) (m[k]'hlt2) && rowsEq (l.drop (k + 1)) (m.drop (k + 1)))) := ⟨by rw [← HK.out, rowsEq_drop hlt hlt2]⟩
    have HE := Lib.hid (rowEqual_any r1 r2 (l[k]'hlt) (m[k]'hlt2) wr (hr1.lift hbw) (hr2.lift hbw))
    generalize l[k]'hlt = t1 at *
    generalize m[k]'hlt2 = t2 at *
    obtain ⟨A1, C1, rfl⟩ := hr1.shape
    obtain ⟨A2, C2, rfl⟩ := hr2.shape
    generalize sameB t1 t2 = tb at *
    have hk2 : (k : Int) < (m.length : Int) := by omega
    clear hc1 hc2 hr1 hr2
    cases tb with
    | false =>
      have HF : Box (out = false) := ⟨by rw [HS.out]; rfl⟩
      clear HS HK HO
      go_wp2_with fail
      refine HE.out.mono ?_
      rintro e w1 ⟨rfl, hb1⟩
      have hbn := hbw.trans (hb1.mono hbw.size)
      clear hb1
      go_wp2_with fail
      go_ret
      exact ⟨ret1 (congrArg Value.bool HF.out.symm), hbn⟩
    | true =>
      have HF : Box (rowsEq (l.drop (k + 1)) (m.drop (k + 1)) = out) := ⟨by rw [HS.out]; rfl⟩
      clear HS HK HO
      go_wp2_with fail
      refine HE.out.mono ?_
      rintro e w1 ⟨rfl, hb1⟩
      have hbn := hbw.trans (hb1.mono hbw.size)
      clear hb1
      go_wp2_with fail
      go_roundw
      case rel => exact ⟨k + 1, by omega, by go_num, HF, hbn⟩
      case measure => simp [intOf]; omega
   ·obtain rfl : k = l.length := by omega
    have HF : Box (out = true) := ⟨by rw [← HK.out, List.drop_length, HLM.out, List.drop_length]; rfl⟩
    go_wp2_with fail
    go_ret
    exact ⟨ret1 (congrArg Value.bool HF.out.symm), hbw⟩
 ·have hne : ((l.length : Int) != (m.length : Int)) = true := by rw [bne_iff_ne]; omega
  have HE : Box (rowsEq l m = false) := ⟨rowsEq_len hlm⟩
  go_enter Tryz.func50, Tryz.ntmps50
  go_wp2_with fail
  go_ret
  exact ⟨ret1 (congrArg Value.bool HE.out.symm), Below.refl _ _⟩
end Go.Proofs.YtaaeekahhhookaaGreatDoor
