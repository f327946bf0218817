/- schismalaw47.text. -/
import Derived.Test.YtagfnnongamneaaGreatDoorGN
namespace Go.Proofs.YtagfnnongamneaaGreatDoor
open Go.RowKit Go.Lib

set_option maxRecDepth 100000 in
set_option maxHeartbeats 4000000 in
theorem tx47_any (v : Value) (l : List Tok) (w : World) (hv : IsToks w w.heap.size v l) (hn : l.length ≤ 4000) (hb : ∀ k, k ≤ l.length → (textTo l k).length ≤ 100000) :
    Calls Tryz.prog 18 #[v] w fun e w' => e = .returned (.string ⟨(textTo l l.length).toArray⟩) ∧ Below w.heap.size w w' := by
  have HV := Lib.hid hv
  obtain ⟨AX, cx, _, rfl, _⟩ := hv
  have HBL : Box (∀ k, k ≤ l.length → (textTo l k).length ≤ 100000) := ⟨hb⟩
  have hni : (l.length : Int) ≤ 4000 := by omega
  clear hb
  go_enter Tryz.func18, Tryz.ntmps18
  go_wp2_with fail
  go_loopw [3, 8] (fun sv i wr => ∃ k : Nat, k ≤ l.length ∧ i = .int .i64 k ∧ sv = .string ⟨(textTo l k).toArray⟩ ∧ Below w.heap.size w wr) (fun _ i _ => l.length - (intOf i).toNat)
  case atStart => exact ⟨0, Nat.zero_le _, rfl, rfl, Below.refl _ _⟩
  case round =>
    obtain ⟨k, hk, rfl, rfl, hbw⟩ := hrel
    by_cases hlt : k < l.length
    · have hbl1 := HBL.out k hk
      have hbl2 := HBL.out (k + 1) hlt
      obtain ⟨b1, o1, r1, rfl, hb1, hr1, hc1⟩ := (HV.out.lift hbw).at_ hlt
      have HS : Box (textTo l (k + 1) = textTo l k ++ (if 0 < k ∧ (l[k]'hlt).kind ≠ 6 ∧ (l[k - 1]?.map (·.kind)).getD 0 ≠ 6 then [32] else []) ++ (l[k]'hlt).text) := ⟨by rw [textTo, List.getElem?_eq_getElem hlt]; rfl⟩
      clear hbl2
      generalize hT1 : l[k]'hlt = t1 at *
      obtain ⟨A1, C1, e1, _⟩ := hr1
      subst e1
      have p0 := hc1 0 (by omega)
      have p1 := hc1 1 (by omega)
      have p2 := hc1 2 (by omega)
      have p3 := hc1 3 (by omega)
      have p4 := hc1 4 (by omega)
      have p5 := hc1 5 (by omega)
      have p6 := hc1 6 (by omega)
      simp only [tokVals, List.getElem?_cons_succ, List.getElem?_cons_zero, Nat.add_zero] at p0 p1 p2 p3 p4 p5 p6
      clear hc1 hT1
      have hbn := hbw.alloc hbw.size (.cells #[.int .i64 t1.kind, .string ⟨t1.text.toArray⟩, .string ⟨t1.num.toArray⟩, .string ⟨t1.den.toArray⟩, .slice A1 t1.row.length C1, .int .i64 t1.line, .int .i64 t1.col] 43)
      rcases Nat.eq_zero_or_pos k with h0 | h0
      · subst h0
        have HSx : Box (textTo l (0 + 1) = textTo l 0 ++ t1.text) := ⟨by rw [HS.out, if_neg (by omega), List.append_nil]⟩
        have hbl2 := HBL.out (0 + 1) hlt
        rw [HSx.out, List.length_append] at hbl2
        clear HS
        generalize textTo l 0 = tx at *
        have hs1 : ¬ 9223372036854775807 < tx.length + t1.text.length := by omega
        have hap := ba_append tx t1.text
        simp only [Nat.zero_mul, Nat.add_zero] at p0 p1 p2 p3 p4 p5 p6
        go_wp2_with fail
        go_roundw
        case rel => exact ⟨0 + 1, by omega, by go_num, by rw [HSx.out, ← ba_append], hbn⟩
        case measure => simp [intOf]; omega
      · obtain ⟨k', rfl⟩ : ∃ k', k = k' + 1 := ⟨k - 1, by omega⟩
        clear h0
        have hlt3 : k' < l.length := by omega
        obtain ⟨b2, o2, r2, e2, _, _, hc2⟩ := (HV.out.lift hbw).at_ hlt3
        injection e2 with e2
        injection e2 with e2 e3
        subst e2 e3
        have z0 := hc2 0 (by omega)
        simp only [tokVals, List.getElem?_cons_zero, Nat.add_zero] at z0
        rw [Nat.add_sub_cancel, List.getElem?_eq_getElem hlt3] at HS
        simp only [Option.map_some, Option.getD_some] at HS
        have hbl3 := HBL.out (k' + 1 + 1) hlt
        obtain ⟨pk, hpk⟩ : ∃ pk, (l[k']'hlt3).kind = pk := ⟨_, rfl⟩
        rw [hpk] at z0
        clear hc2
        have z1 : (wr.alloc (.cells #[.int .i64 t1.kind, .string ⟨t1.text.toArray⟩, .string ⟨t1.num.toArray⟩, .string ⟨t1.den.toArray⟩, .slice A1 t1.row.length C1, .int .i64 t1.line, .int .i64 t1.col] 43)).cell? ⟨b1, o1 + k' * 7, Option.none⟩ = some (.int .i64 pk) := keep_cell z0 ((Below.refl wr.heap.size wr).alloc (Nat.le_refl _) _)
        by_cases hq1 : t1.kind = 6
        · skip
          have HSx : Box (textTo l (k' + 1 + 1) = textTo l (k' + 1) ++ t1.text) := ⟨by rw [HS.out, if_neg (fun h => h.2.1 hq1), List.append_nil]⟩
          rw [HSx.out] at hbl3
          simp only [List.length_append] at hbl3
          clear HS hpk
          generalize textTo l (k' + 1) = tx at *
          have hz1 : (t1.kind != 6) = false := by simpa using hq1
          clear hq1
          have hs1 : ¬ 9223372036854775807 < tx.length + t1.text.length := by omega
          go_wp2_with fail
          go_roundw
          case rel => exact ⟨k' + 1 + 1, by omega, by go_num, by rw [HSx.out, ← ba_append], hbn⟩
          case measure => simp [intOf]; omega
        by_cases hq2 : pk = 6
        · skip
          have HSx : Box (textTo l (k' + 1 + 1) = textTo l (k' + 1) ++ t1.text) := ⟨by rw [HS.out, if_neg (fun h => h.2.2 (hpk.trans hq2)), List.append_nil]⟩
          rw [HSx.out] at hbl3
          simp only [List.length_append] at hbl3
          clear HS hpk
          generalize textTo l (k' + 1) = tx at *
          have hz1 : (t1.kind != 6) = true := by simpa using hq1
          have hz2 : (pk != 6) = false := by simpa using hq2
          clear hq1 hq2
          have hs1 : ¬ 9223372036854775807 < tx.length + t1.text.length := by omega
          go_wp2_with fail
          go_roundw
          case rel => exact ⟨k' + 1 + 1, by omega, by go_num, by rw [HSx.out, ← ba_append], hbn⟩
          case measure => simp [intOf]; omega
        · skip
          have HSx : Box (textTo l (k' + 1 + 1) = textTo l (k' + 1) ++ [32] ++ t1.text) := ⟨by rw [HS.out, if_pos ⟨by omega, hq1, fun h => hq2 (hpk.symm.trans h)⟩]⟩
          rw [HSx.out] at hbl3
          simp only [List.length_append, List.length_singleton] at hbl3
          clear HS hpk
          generalize textTo l (k' + 1) = tx at *
          have hz1 : (t1.kind != 6) = true := by simpa using hq1
          have hz2 : (pk != 6) = true := by simpa using hq2
          clear hq1 hq2
          have hs1 : ¬ 9223372036854775807 < tx.length + t1.text.length := by omega
          have hs2 : ¬ 9223372036854775807 < tx.length + 1 := by omega
          have hs3 : ¬ 9223372036854775807 < tx.length + 1 + t1.text.length := by omega
          go_wp2_with fail
          go_roundw
          case rel => exact ⟨k' + 1 + 1, by omega, by go_num, by rw [HSx.out, ← ba_append, ← ba_append], hbn⟩
          case measure => simp [intOf]; omega
    · obtain rfl : k = l.length := by omega
      go_wp2_with fail
      go_ret
      exact ⟨rfl, hbw⟩

end Go.Proofs.YtagfnnongamneaaGreatDoor
