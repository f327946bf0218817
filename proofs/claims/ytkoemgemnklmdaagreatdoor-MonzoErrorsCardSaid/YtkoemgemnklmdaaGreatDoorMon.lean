/- monzo.CheckAll, monzo.Check, monzo.result. -/
import Derived.Test.YtkoemgemnklmdaaGreatDoorPrime
namespace Go.Proofs.YtkoemgemnklmdaaGreatDoor
open Go.RowKit Go.Lib

def farB (v : Int) : Bool := decide (1000 < v) || decide (v < -1000)
def rowErr (n : Nat) (x : List Int) : Int := if x.length ≠ n then 5 else if x.any farB = true then 4 else 0
def rowsErr (n : Nat) : List (List Int) → Int
  | [] => 0
  | x :: r => if rowErr n x ≠ 0 then rowErr n x else rowsErr n r
def chkAll (p : List Int) (l : List (List Int)) : Int := if primeErr p ≠ 0 then primeErr p else rowsErr p.length l

theorem rowsErr_step (n : Nat) (l : List (List Int)) (k : Nat) (x : List Int) (hx : l[k]? = some x) : rowsErr n (l.drop k) = if rowErr n x ≠ 0 then rowErr n x else rowsErr n (l.drop (k + 1)) := by
  obtain ⟨hk, e⟩ := List.getElem?_eq_some_iff.1 hx
  rw [List.drop_eq_getElem_cons hk, rowsErr, e]

/-- A slice of rows: its cells are the values vs, each a row of ints. -/
structure RowsAt (w : World) (B : Nat) (A : Option Addr) (l : List (List Int)) : Prop where
  get : ∀ k x, l[k]? = some x → ∃ ad v, A = some ad ∧ ad.block < B ∧ w.cell? (ad.add k) = some v ∧ IsRow w B v x

set_option maxHeartbeats 1000000 in
theorem checkAll_any (pv : Value) (p : List Int) (A : Option Addr) (c B : Nat) (l : List (List Int)) (w : World) (hp : IsRow w B pv p) (hl : RowsAt w B A l) (hlm : l.length ≤ 1000000) :
    Calls Tryz.prog 20 #[pv, .slice A l.length c] w fun e w' => e = .returned (.int .i64 (chkAll p l)) ∧ w = w' := by
  have HPC := Lib.hid (primeCheck_any pv p B w hp)
  obtain ⟨AP, cp, rfl, hpc, hpm, hpr⟩ := hp
  unfold maxLen at hpm
  have hpl : p.length ≤ 9223372036854775807 := by omega
  clear hpc hpm hpr
  by_cases hpe : primeErr p = 0
  · rw [hpe] at HPC
    have hv : chkAll p l = rowsErr p.length (l.drop 0) := by unfold chkAll; rw [if_neg (by simp [hpe])]; rfl
    rw [hv]
    clear hv hpe
    go_enter Tryz.func20, Tryz.ntmps20
    go_wp2_with (go_at_call 21; refine HPC.out.mono ?_; rintro e w1 ⟨rfl, rfl⟩)
    go_loop [17] (fun i => ∃ k : Nat, k ≤ l.length ∧ i = .int .i64 k ∧ Box (rowsErr p.length (l.drop 0) = rowsErr p.length (l.drop k))) (fun i => l.length - (intOf i).toNat)
    case atStart => exact ⟨0, Nat.zero_le _, rfl, ⟨rfl⟩⟩
    case round =>
      obtain ⟨k, hk, rfl, HV⟩ := hrel
      by_cases hlt : k < l.length
      · obtain ⟨ad, v, rfl, _, hca, A2, c2, rfl, hc2, hm2, hr2⟩ := hl.get k l[k] (List.getElem?_eq_getElem hlt)
        have HST := Lib.hid (rowsErr_step p.length l k l[k] (List.getElem?_eq_getElem hlt))
        generalize l[k] = x at *
        have HR : Hid (rowErr p.length x = if x.length ≠ p.length then 5 else if x.any farB = true then 4 else 0) := rfl
        unfold maxLen at hm2
        have hxl : x.length ≤ 9223372036854775807 := by omega
        clear hm2 hc2
        by_cases hxn : x.length = p.length
        · have hne : ((x.length : Int) != (p.length : Int)) = false := by simp [hxn]
          have HXN := Lib.hid hxn
          clear hxn
          go_wp2
          go_loop [28] (fun i => ∃ j : Nat, j ≤ x.length ∧ i = .int .i64 j ∧ Box ((x.take j).any farB = false)) (fun i => x.length - (intOf i).toNat)
          case atStart => exact ⟨0, Nat.zero_le _, rfl, ⟨rfl⟩⟩
          case round =>
            obtain ⟨j, hj, rfl, HF⟩ := hrel
            by_cases hjl : j < x.length
            · obtain ⟨ad2, rfl, _, hcb⟩ := hr2.i_at hjl
              have hs : (x.take (j + 1)).any farB = ((x.take j).any farB || farB (x[j]?.getD 0)) := by
                rw [List.take_succ_eq_append_getElem hjl, List.any_append, List.getElem?_eq_getElem hjl]; simp
              have hf : farB (x[j]?.getD 0) = true → x.any farB = true := by
                intro h
                rw [List.any_eq_true]
                exact ⟨x[j], List.getElem_mem hjl, by rw [List.getElem?_eq_getElem hjl] at h; simpa using h⟩
              have hfb : farB (x[j]?.getD 0) = (decide (1000 < x[j]?.getD 0) || decide (x[j]?.getD 0 < -1000)) := rfl
              generalize x[j]?.getD 0 = y at *
              have HS := Lib.hid hs
              have HF2 := Lib.hid hf
              have HFB := Lib.hid hfb
              clear hs hf hfb
              by_cases hy1 : 1000 < y
              · have HE : Box (rowsErr p.length (l.drop 0) = 4) := ⟨by
                  have : rowErr p.length x = 4 := by rw [HR.out, if_neg (by simp [HXN.out]), if_pos (HF2.out (by rw [HFB.out]; simp [hy1]))]
                  rw [HV.out, HST.out, this]; rfl⟩
                go_wp2
                go_ret
                exact ⟨ret_int HE.out.symm, rfl⟩
              · by_cases hy2 : y < -1000
                · have HE : Box (rowsErr p.length (l.drop 0) = 4) := ⟨by
                    have : rowErr p.length x = 4 := by rw [HR.out, if_neg (by simp [HXN.out]), if_pos (HF2.out (by rw [HFB.out]; simp [hy2]))]
                    rw [HV.out, HST.out, this]; rfl⟩
                  go_wp2
                  go_ret
                  exact ⟨ret_int HE.out.symm, rfl⟩
                · go_wp2
                  go_round
                  case rel => exact ⟨j + 1, by omega, by go_num, ⟨by rw [HS.out, HF.out, HFB.out]; simp [hy1, hy2]⟩⟩
                  case measure => simp [intOf]; omega
            · obtain rfl : j = x.length := by omega
              have HE : Box (rowsErr p.length (l.drop 0) = rowsErr p.length (l.drop (k + 1))) := ⟨by
                have h := HF.out
                rw [List.take_of_length_le (Nat.le_refl _)] at h
                have : rowErr p.length x = 0 := by rw [HR.out, if_neg (by simp [HXN.out]), if_neg (by simp [h])]
                rw [HV.out, HST.out, this]; rfl⟩
              go_wp2
              go_round
              case rel => exact ⟨k + 1, by omega, by go_num, HE⟩
              case measure => simp [intOf]; omega
        · have hne : ((x.length : Int) != (p.length : Int)) = true := by rw [bne_iff_ne]; omega
          have HE : Box (rowsErr p.length (l.drop 0) = 5) := ⟨by
            have : rowErr p.length x = 5 := by rw [HR.out, if_pos hxn]
            rw [HV.out, HST.out, this]; rfl⟩
          go_wp2
          go_ret
          exact ⟨ret_int HE.out.symm, rfl⟩
      · obtain rfl : k = l.length := by omega
        have HE : Box (rowsErr p.length (l.drop 0) = 0) := ⟨by rw [HV.out, List.drop_of_length_le (Nat.le_refl _)]; rfl⟩
        go_wp2
        go_ret
        exact ⟨ret_int HE.out.symm, rfl⟩
  · have hv : chkAll p l = primeErr p := by unfold chkAll; rw [if_pos hpe]
    rw [hv]
    clear hv
    have hpb : (primeErr p != 0) = true := by rw [bne_iff_ne]; exact hpe
    generalize primeErr p = q at *
    go_enter Tryz.func20, Tryz.ntmps20
    go_wp2_with (go_at_call 21; refine HPC.out.mono ?_; rintro e w1 ⟨rfl, rfl⟩)
    go_ret
    exact ⟨rfl, rfl⟩

end Go.Proofs.YtkoemgemnklmdaaGreatDoor
