/- ChordParses: the walk. -/
import Derived.Test.YteenfcmnmenigaaGreatDoorGCG
import Derived.Test.YteenfcmnmenigaaGreatDoorLk6G
import Derived.Test.YteenfcmnmenigaaGreatDoorArgsG
namespace Go.Proofs.YteenfcmnmenigaaGreatDoor
open Go.RowKit Go.Lib

theorem RowsPost.shape {x : Int} {l : List (List Int)} {base : Nat} {e : Ending} {w : World} (h : RowsPost x l base e w) : ∃ A c, e = .returned (.tuple #[.slice A (if x = 0 then l else []).length c, .int .i64 x]) ∧ RowsAt w w.heap.size A (if x = 0 then l else []) := by
  rcases h with ⟨rfl, v, rfl, hor⟩ | ⟨h0, rfl⟩
  · obtain ⟨A, c, rfl⟩ := hor.shape
    exact ⟨A, c, rfl, hor.rows.2⟩
  · rw [if_neg h0]
    exact ⟨Option.none, 0, rfl, ⟨fun k x h => by simp at h⟩⟩

set_option maxRecDepth 100000 in
set_option maxHeartbeats 4000000 in
theorem parses39_walk (pv : Value) (p : List Int) (s : List UInt8) (w : World) (hS : Std w) (hm : ∃ m, w.cell? ⟨2, 0, Option.none⟩ = some (.int .i64 m)) (hp : IsRow w w.heap.size pv p) (hs : s.length ≤ maxLen) :
    Calls Tryz.prog 5 #[pv, .string ⟨s.toArray⟩] w fun e w' => e = .returned (.bool true) ∧ Below w.heap.size w w' := by
  obtain ⟨m, hm⟩ := hm
  have HS := Lib.hid hS
  have HM := Lib.hid hm
  have HP := Lib.hid hp
  have HK := Lib.hid (fun (W : World) (hb : Below w.heap.size w W) => known_any39 W m (hS.below hb (Nat.le_refl _)) (keep_cell hm hb))
  obtain ⟨AP, cp, rfl, _, hpm, _⟩ := hp
  unfold maxLen at hpm hs
  have hpl : p.length ≤ 9223372036854775807 := by omega
  have hsl : s.length ≤ 9223372036854775807 := by omega
  clear hpm hm hS hs
  by_cases h9 : 9 < p.length
  · have d9 : decide ((9 : Int) < (p.length : Int)) = true := by rw [decide_eq_true_iff]; omega
    go_enter Tryz.func5, Tryz.ntmps5
    go_wp2_with fail
    refine (HK.out w (Below.refl _ _)).mono ?_
    rintro e w1 ⟨rfl, hb1⟩
    go_wp2_with fail
    refine (HK.out w1 hb1).mono ?_
    rintro e w2 ⟨rfl, hb2⟩
    go_wp2_with fail
    go_ret
    exact ⟨rfl, hb1.trans (hb2.mono hb1.size)⟩
  have d9 : decide ((9 : Int) < (p.length : Int)) = false := by rw [decide_eq_false_iff_not]; omega
  clear h9
  by_cases h60 : 60 < s.length
  · have d60 : decide ((60 : Int) < (s.length : Int)) = true := by rw [decide_eq_true_iff]; omega
    go_enter Tryz.func5, Tryz.ntmps5
    go_wp2_with fail
    refine (HK.out w (Below.refl _ _)).mono ?_
    rintro e w1 ⟨rfl, hb1⟩
    go_wp2_with fail
    refine (HK.out w1 hb1).mono ?_
    rintro e w2 ⟨rfl, hb2⟩
    go_wp2_with fail
    go_ret
    exact ⟨rfl, hb1.trans (hb2.mono hb1.size)⟩
  have d60 : decide ((60 : Int) < (s.length : Int)) = false := by rw [decide_eq_false_iff_not]; omega
  have HPA := Lib.hid (fun (W : World) (hb : Below w.heap.size w W) => chParse_any _ p s m W (HS.out.below hb (Nat.le_refl _)) (HP.out.lift hb) (keep_cell HM.out hb) (by omega))
  have HPB := Lib.hid (fun (W : World) (hb : Below w.heap.size w W) => parse_any39 _ p s m W (HS.out.below hb (Nat.le_refl _)) (HP.out.lift hb) (keep_cell HM.out hb) (by omega))
  have HLN : Hid ((if parErr p s = 0 then parRows p s else []).length ≤ 1000000) := Lib.hid (by
    split
    · unfold parRows
      split
      · decide
      · rename_i l hl
        obtain ⟨_, h2, _⟩ := readL_some hl
        rw [facL_len (Nat.le_refl _)]
        omega
    · decide)
  clear h60
  generalize parErr p s = V at *
  generalize parRows p s = R at *
  obtain ⟨L, hL⟩ : ∃ L, (if V = 0 then R else []) = L := ⟨_, rfl⟩
  have HL := Lib.hid hL
  rw [hL] at HLN
  clear hL
  go_enter Tryz.func5, Tryz.ntmps5
  go_wp2_with fail
  refine (HK.out w (Below.refl _ _)).mono ?_
  rintro e w1 ⟨rfl, hb1⟩
  go_wp2_with fail
  refine (HPA.out w1 hb1).mono ?_
  rintro e w2 ⟨hpo, hb2⟩
  have hbx := hb1.trans (hb2.mono hb1.size)
  obtain ⟨A2, c2, rfl, hr2⟩ := hpo.shape
  rw [HL.out] at hr2
  rw [HL.out]
  have HR2 : Box (RowsAt w2 w2.heap.size A2 L) := ⟨hr2⟩
  clear hb1 hb2 hpo hr2 HPA HK
  go_wp2_with fail
  refine (HPB.out w2 hbx).mono ?_
  rintro e w3 ⟨hpo, hb3⟩
  obtain ⟨A3, c3, rfl, hr3⟩ := hpo.shape
  rw [HL.out] at hr3
  rw [HL.out]
  have HSM := Lib.hid (same_any39 A2 A3 c2 c3 L L w3 (HR2.out.lift hb3) hr3 HLN.out)
  rw [show rowsEq L L = true from decide_eq_true rfl] at HSM
  replace hbx := hbx.trans (hb3.mono hbx.size)
  clear hb3 hpo hr3 HPB
  go_wp2_with fail
  refine HSM.out.mono ?_
  rintro e w4 ⟨rfl, hb4⟩
  go_wp2_with fail
  go_ret
  exact ⟨rfl, hbx.trans (hb4.mono hbx.size)⟩

end Go.Proofs.YteenfcmnmenigaaGreatDoor
