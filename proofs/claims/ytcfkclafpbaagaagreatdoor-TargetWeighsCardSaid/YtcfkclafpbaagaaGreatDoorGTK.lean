/- schismalaw29.same, few. schismalaw29.numbers. schismalaw29.reduced. target.Integer$1, schismalaw29.of. target.kept with the test of Integer. Rows in own memory at an address, out of LRow. target.kept with the test of Integer, of rows that lie anywhere below. target.Superparticular given Integer's contract. schismalaw29.of. schismalaw29.within. -/
import Derived.Test.YtcfkclafpbaagaaGreatDoorGTJ
import Derived.Test.YtcfkclafpbaagaaGreatDoorREqG
import Derived.Test.YtcfkclafpbaagaaGreatDoorGTF
import Derived.Test.YtcfkclafpbaagaaGreatDoorOrdersG
import Derived.Test.YtcfkclafpbaagaaGreatDoorGE
import Derived.Test.YtcfkclafpbaagaaGreatDoorGTG
import Derived.Test.YtcfkclafpbaagaaGreatDoorGI
namespace Go.Proofs.YtcfkclafpbaagaaGreatDoor
open Go.RowKit Go.Lib Go.Shelf

/-- Are two lists of rows the same? -/
def rowsSame : List (List Int) → List (List Int) → Bool
  | [], [] => true
  | x :: l, y :: m => sameB x y && rowsSame l m
  | _, _ => false

theorem rowsSame_ne : ∀ {l m : List (List Int)}, l.length ≠ m.length → rowsSame l m = false
  | [], [], h => absurd rfl h
  | [], _ :: _, _ => rfl
  | _ :: _, [], _ => rfl
  | x :: l, y :: m, h => by
    rw [rowsSame, rowsSame_ne (l := l) (m := m) (fun e => h (by simp [e])), Bool.and_false]

theorem rowsSame_step {l m : List (List Int)} {k : Nat} (h1 : k < l.length) (h2 : k < m.length) : rowsSame (l.drop k) (m.drop k) = (sameB l[k] m[k] && rowsSame (l.drop (k + 1)) (m.drop (k + 1))) := by
  rw [List.drop_eq_getElem_cons h1, List.drop_eq_getElem_cons h2, rowsSame]

set_option maxHeartbeats 2000000 in
theorem same_any29 (A1 A2 : Option Addr) (c1 c2 : Nat) (l m : List (List Int)) (w : World) (h1 : RowsAt w w.heap.size A1 l) (h2 : RowsAt w w.heap.size A2 m) (n1 : l.length ≤ 1000000) :
    Calls Tryz.prog 21 #[.slice A1 l.length c1, .slice A2 m.length c2] w fun e w' => e = .returned (.bool (rowsSame l m)) ∧ Below w.heap.size w w' := by
  by_cases hl : l.length = m.length
  · have hne : ((l.length : Int) != (m.length : Int)) = false := by simp [hl]
    have HL := Lib.hid hl
    have H1 := Lib.hid h1
    have H2 := Lib.hid h2
    have HV : Hid (rowsSame l m = rowsSame (l.drop 0) (m.drop 0)) := Lib.hid rfl
    clear hl h1 h2
    generalize rowsSame l m = V at *
    go_enter Tryz.func21, Tryz.ntmps21
    go_wp2_with fail
    go_loopw [5] (fun i wr => ∃ k : Nat, k ≤ l.length ∧ i = .int .i64 k ∧ Box (V = rowsSame (l.drop k) (m.drop k)) ∧ Below w.heap.size w wr) (fun i _ => l.length - (intOf i).toNat)
    case atStart => exact ⟨0, Nat.zero_le _, rfl, ⟨HV.out⟩, Below.refl _ _⟩
    case round =>
      clear HV
      obtain ⟨k, hk, rfl, HV, hbw⟩ := hrel
      by_cases hlt : k < l.length
      · have hlm : k < m.length := by rw [← HL.out]; exact hlt
        obtain ⟨ad1, v1, rfl, hab1, hca1, hr1⟩ := H1.out.get k l[k] (List.getElem?_eq_getElem hlt)
        obtain ⟨ad2, v2, rfl, hab2, hca2, hr2⟩ := H2.out.get k m[k] (List.getElem?_eq_getElem hlm)
        have p1 := (hbw.cell (p := ad1.add k) (by rw [add_block]; exact hab1)).trans hca1
        have p2 := (hbw.cell (p := ad2.add k) (by rw [add_block]; exact hab2)).trans hca2
        have HST := Lib.hid (rowsSame_step hlt hlm)
        generalize l[k] = x at *
        generalize m[k] = y at *
        have HQ := Lib.hid (fun (W : World) (h : Below wr.heap.size wr W) => rowEqual_any v1 v2 x y W ((hr1.lift hbw).lift h) ((hr2.lift hbw).lift h))
        obtain ⟨AX, cx, rfl⟩ := hr1.shape
        obtain ⟨AY, cy, rfl⟩ := hr2.shape
        have HB := Lib.hid hbw
        have hk1 : (0 : Int) ≤ (k : Int) := by omega
        have hk2 : (k : Int) < (l.length : Int) := by omega
        have hk3 : (k : Int) < (m.length : Int) := by omega
        clear hbw hca1 hca2 hr1 hr2
        cases hE : sameB x y
        · have HE : Box (V = false) := ⟨by rw [HV.out, HST.out, hE]; rfl⟩
          rw [hE] at HQ
          clear hE
          have hB : Below wr.heap.size wr wr.drew := below_drew (Below.refl _ _)
          go_wp2_with fail
          go_region_held3 (fun w' => w'.cell? (ad1.add k) = some (.slice AX x.length cx) ∧ w'.cell? (ad2.add k) = some (.slice AY y.length cy))
            (first | exact ⟨keep_cell p1 hB, keep_cell p2 hB⟩ | go_keep)
            ((first | (go_at_call 38; (with_reducible refine (HQ.out _ hB).mono ?_); rintro e w7 ⟨rfl, hbk⟩; replace hB := hB.trans (hbk.mono hB.size); clear hbk)))
          all_goals
            go_wp2_with fail
            go_ret
            exact ⟨ret1 (congrArg Value.bool HE.out.symm), HB.out.trans (hB.mono HB.out.size)⟩
        · have HE : Box (V = rowsSame (l.drop (k + 1)) (m.drop (k + 1))) := ⟨by rw [HV.out, HST.out, hE]; rfl⟩
          rw [hE] at HQ
          clear hE
          have hB : Below wr.heap.size wr wr.drew := below_drew (Below.refl _ _)
          go_wp2_with fail
          go_region_held3 (fun w' => w'.cell? (ad1.add k) = some (.slice AX x.length cx) ∧ w'.cell? (ad2.add k) = some (.slice AY y.length cy))
            (first | exact ⟨keep_cell p1 hB, keep_cell p2 hB⟩ | go_keep)
            ((first | (go_at_call 38; (with_reducible refine (HQ.out _ hB).mono ?_); rintro e w7 ⟨rfl, hbk⟩; replace hB := hB.trans (hbk.mono hB.size); clear hbk)))
          all_goals
            go_wp2_with fail
            go_roundw
            case rel => exact ⟨k + 1, by omega, by go_num, HE, HB.out.trans (hB.mono HB.out.size)⟩
            case measure => simp [intOf]; omega
      · obtain rfl : k = l.length := by omega
        have HE : Box (V = true) := ⟨by
          rw [HV.out, List.drop_of_length_le (Nat.le_refl _), List.drop_of_length_le (by rw [HL.out]; exact Nat.le_refl _)]; rfl⟩
        go_wp2_with fail
        go_ret
        exact ⟨ret1 (congrArg Value.bool HE.out.symm), hbw⟩
  · have hne : ((l.length : Int) != (m.length : Int)) = true := by rw [bne_iff_ne]; omega
    rw [rowsSame_ne hl]
    clear h1 h2
    go_enter Tryz.func21, Tryz.ntmps21
    go_wp2_with fail
    go_ret
    exact ⟨rfl, Below.refl _ _⟩

/-- At most 8 rows of at most 8 exponents each. -/
def rowsFew (l : List (List Int)) : Bool := l.all (fun x => decide (x.length ≤ 8)) && decide (l.length ≤ 8)

theorem all_drop_step {l : List (List Int)} {k : Nat} (h : k < l.length) (f : List Int → Bool) : (l.drop k).all f = (f l[k] && (l.drop (k + 1)).all f) := by
  rw [List.drop_eq_getElem_cons h, List.all_cons]

set_option maxHeartbeats 2000000 in
theorem few_any29 (A : Option Addr) (c : Nat) (l : List (List Int)) (w : World) (h : RowsAt w w.heap.size A l) (n1 : l.length ≤ 9223372036854775807) :
    Calls Tryz.prog 31 #[.slice A l.length c] w fun e w' => e = .returned (.bool (rowsFew l)) ∧ Below w.heap.size w w' := by
  have H1 := Lib.hid h
  have HV : Hid (rowsFew l = ((l.drop 0).all (fun x => decide (x.length ≤ 8)) && decide (l.length ≤ 8))) := Lib.hid rfl
  clear h
  generalize rowsFew l = V at *
  go_enter Tryz.func31, Tryz.ntmps31
  go_wp2_with fail
  go_loopw [3] (fun i wr => ∃ k : Nat, k ≤ l.length ∧ i = .int .i64 k ∧ Box (V = ((l.drop k).all (fun x => decide (x.length ≤ 8)) && decide (l.length ≤ 8))) ∧ Below w.heap.size w wr) (fun i _ => l.length - (intOf i).toNat)
  case atStart => exact ⟨0, Nat.zero_le _, rfl, ⟨HV.out⟩, Below.refl _ _⟩
  case round =>
    clear HV
    obtain ⟨k, hk, rfl, HV, hbw⟩ := hrel
    by_cases hlt : k < l.length
    · obtain ⟨ad1, v1, rfl, hab1, hca1, hr1⟩ := H1.out.get k l[k] (List.getElem?_eq_getElem hlt)
      have p1 := (hbw.cell (p := ad1.add k) (by rw [add_block]; exact hab1)).trans hca1
      have HST := Lib.hid (all_drop_step hlt (fun x => decide (x.length ≤ 8)))
      generalize l[k] = x at *
      obtain ⟨AX, cx, rfl⟩ := hr1.shape
      have HB := Lib.hid hbw
      have hk1 : (0 : Int) ≤ (k : Int) := by omega
      have hk2 : (k : Int) < (l.length : Int) := by omega
      clear hbw hca1 hr1
      by_cases h8 : x.length ≤ 8
      · have HE : Box (V = ((l.drop (k + 1)).all (fun x => decide (x.length ≤ 8)) && decide (l.length ≤ 8))) := ⟨by rw [HV.out, HST.out, decide_eq_true h8]; rfl⟩
        have d : decide ((8 : Int) < (x.length : Int)) = false := by rw [decide_eq_false_iff_not]; omega
        have HX := Lib.hid h8
        clear h8
        go_wp2
        go_roundw
        case rel => exact ⟨k + 1, by omega, by go_num, HE, HB.out⟩
        case measure => simp [intOf]; omega
      · have HE : Box (V = false) := ⟨by rw [HV.out, HST.out, decide_eq_false h8]; rfl⟩
        have d : decide ((8 : Int) < (x.length : Int)) = true := by rw [decide_eq_true_iff]; omega
        have HX := Lib.hid h8
        clear h8
        go_wp2
        go_ret
        exact ⟨ret1 (congrArg Value.bool HE.out.symm), HB.out⟩
    · obtain rfl : k = l.length := by omega
      have HE : Box (V = decide ((l.length : Int) ≤ 8)) := ⟨by
        rw [HV.out, List.drop_of_length_le (Nat.le_refl _), List.all_nil, Bool.true_and]
        exact decide_eq_decide.2 (by omega)⟩
      go_wp2
      go_ret
      exact ⟨ret1 (congrArg Value.bool HE.out.symm), hbw⟩

end Go.Proofs.YtcfkclafpbaagaaGreatDoor

namespace Go.Proofs.YtcfkclafpbaagaaGreatDoor
open Go.RowKit Go.Lib Go.Shelf

/-- Is k one of the numbers? -/
def num29B (p : List Int) (odd : Bool) (k : Nat) : Bool := smB p k 1 && (!odd || decide (k % 2 = 1))
/-- The numbers up to k. -/
def nums29 (p : List Int) (odd : Bool) : Nat → List Int
  | 0 => []
  | k + 1 => if num29B p odd (k + 1) = true then nums29 p odd k ++ [((k + 1 : Nat) : Int)] else nums29 p odd k
theorem nums29_len (p : List Int) (odd : Bool) : ∀ k, (nums29 p odd k).length ≤ k
  | 0 => Nat.le_refl _
  | k + 1 => by
    have := nums29_len p odd k
    unfold nums29
    split
    · rw [List.length_append]; simp; omega
    · omega
theorem nums29_yes {p : List Int} {odd : Bool} {k : Nat} (h : num29B p odd (k + 1) = true) : nums29 p odd (k + 1) = nums29 p odd k ++ [((k + 1 : Nat) : Int)] := by rw [nums29, if_pos h]
theorem nums29_no {p : List Int} {odd : Bool} {k : Nat} (h : num29B p odd (k + 1) = false) : nums29 p odd (k + 1) = nums29 p odd k := by rw [nums29, if_neg (by simp [h])]

set_option maxRecDepth 100000 in
set_option maxHeartbeats 2000000 in
theorem numbers_any29 (pv : Value) (p : List Int) (m : Nat) (odd : Bool) (w : World) (hS : Std w) (hp : IsRow w w.heap.size pv p) (hpe : primeErr p = 0) (hm : m ≤ 99) :
    Calls Tryz.prog 26 #[pv, .int .i64 m, .bool odd] w fun e w' => (∃ v, e = .returned v ∧ w'.ownsRow w.heap.size 3 1 v (nums29 p odd m).length (is (nums29 p odd m))) ∧ Below w.heap.size w w' := by
  obtain ⟨i0, hi0, hy0, hy1, hy2⟩ := info_parts Tryz.info_int
  have HS := Lib.hid hS
  have HP := Lib.hid hp
  have HPE : Box (primeErr p = 0) := ⟨hpe⟩
  obtain ⟨AP, cp, rfl⟩ := hp.shape
  clear hS hp hpe
  go_enter Tryz.func26, Tryz.ntmps26
  go_wp2_with fail
  go_loopw [7, 8] (fun o i wr => ∃ (k : Nat), k ≤ m ∧ i = .int .i64 ((k + 1 : Nat) : Int) ∧ Hid (wr.ownsRow w.heap.size 3 1 o (nums29 p odd k).length (is (nums29 p odd k))) ∧ Below w.heap.size w wr) (fun _ i _ => m + 1 - (intOf i).toNat)
  case atStart => exact ⟨0, Nat.zero_le _, rfl, Lib.hid (World.ownsRow_nil _ _ _ _), Below.refl _ _⟩
  case round =>
    obtain ⟨k, hk, rfl, HO, hbw⟩ := hrel
    by_cases hlt : k < m
    · obtain ⟨z, hz⟩ : ∃ z : Int, z = ((k + 1 : Nat) : Int) := ⟨_, rfl⟩
      have hz0 : 0 ≤ z := by omega
      have hz9 : z ≤ 99 := by omega
      have hzm : z ≤ (m : Int) := by omega
      have HQ := Lib.hid (fracOf_any ((k + 1 : Nat) : Int) 1 wr (HS.out.below hbw (Nat.le_refl _)) (by omega) (by omega) (by omega))
      rw [(low_one ((k + 1 : Nat) : Int)).1, (low_one ((k + 1 : Nat) : Int)).2, itoa_nat, itoa_one] at HQ
      have HF := Lib.hid (fun W (hb : Below w.heap.size w W) => primeSmooth_any (.slice AP p.length cp) p (k + 1) W (HS.out.below hb (Nat.le_refl _)) (HP.out.lift hb) HPE.out (by omega) (by omega))
      have hln := nums29_len p odd k
      have HY := Lib.hid (fun h => @nums29_yes p odd k h)
      have HN := Lib.hid (fun h => @nums29_no p odd k h)
      have HB := Lib.hid hbw
      have hwk := hbw.size
      clear hbw
      generalize decDigits (k + 1) = la at *
      rw [← hz] at HQ
      rw [← hz]
      have HZ := Lib.hid hz
      clear hz
      go_wp2_with fail
      refine HQ.out.mono ?_
      rintro e w1 ⟨rfl, hb1⟩
      have hba : Below wr.heap.size wr (w1.alloc (.cells #[.string ⟨la.toArray⟩, .string ⟨#[49]⟩] 53)) := hb1.alloc hb1.size _
      have hb1' := HB.out.trans (hba.mono hwk)
      have HF1 := Lib.hid (HF.out _ hb1')
      have HO1 := Lib.hid (own_below HO.out hba)
      have HB1 := Lib.hid hb1'
      clear hb1 hba hb1'
      go_wp2_with fail
      refine HF1.out.mono ?_
      rintro e w2 ⟨rfl, hb2⟩
      have HO2 := Lib.hid (own_below HO1.out hb2)
      have HB2 := Lib.hid (HB1.out.trans (hb2.mono HB1.out.size))
      have hw2 : w.heap.size ≤ w2.heap.size := HB2.out.size
      clear hb2 HO HO1 HF HF1 HQ
      have HNB0 : Hid (num29B p odd (k + 1) = (smB p (k + 1) 1 && (!odd || decide ((k + 1) % 2 = 1)))) := Lib.hid rfl
      generalize smB p (k + 1) 1 = b at *
      have htm : z.tmod 2 = (((k + 1) % 2 : Nat) : Int) := by rw [HZ.out, Int.tmod_eq_emod_of_nonneg (by omega)]; omega
      rcases Nat.mod_two_eq_zero_or_one (k + 1) with he | he
      · have htm2 : z.tmod 2 = 0 := by rw [htm, he]; rfl
        rw [he] at HNB0
        clear htm he
        cases b <;> cases odd
        · have HNB : Box (num29B p _ (k + 1) = false) := ⟨HNB0.out⟩
          clear HNB0
          go_wp2_with fail
          go_roundw
          case rel => exact ⟨k + 1, by omega, by rw [HZ.out]; go_num, by rw [HN.out HNB.out]; exact HO2, HB2.out⟩
          case measure => rw [HZ.out]; simp [intOf]; omega
        · have HNB : Box (num29B p _ (k + 1) = false) := ⟨HNB0.out⟩
          clear HNB0
          go_wp2_with fail
          go_roundw
          case rel => exact ⟨k + 1, by omega, by rw [HZ.out]; go_num, by rw [HN.out HNB.out]; exact HO2, HB2.out⟩
          case measure => rw [HZ.out]; simp [intOf]; omega
        · have HNB : Box (num29B p _ (k + 1) = true) := ⟨HNB0.out⟩
          clear HNB0
          go_wp2_with (at_builtin; refine wpList_append_own _ rfl _ _ _ rfl w.heap.size 3 i0 (.int .i64 0) 1 8 Tryz.underlying24 hi0 hy0 hy1 hy2 rfl (by decide) _ _ _ rfl (HO2.out.alloc _) ⟨w2.heap.size, 0, Option.none⟩ 1 1 [_] rfl rfl (cell_one_new _ _ _) (by intro u hu; simp at hu; subst hu; rfl) (by unfold maxLen; omega) (by omega) (by simp; omega) ?_; intro v3 w3 hown3 hg3 _)
          go_roundw
          case rel =>
            refine ⟨k + 1, by omega, by rw [HZ.out]; go_num, ?_, (HB2.out.alloc hw2 _).grown hg3 (by simp; omega) (fun k hk => (HO2.out.lt k hk).1)⟩
            rw [HY.out HNB.out, List.length_append, is_append, ← HZ.out]
            exact Lib.hid hown3
          case measure => rw [HZ.out]; simp [intOf]; omega
        · have HNB : Box (num29B p _ (k + 1) = false) := ⟨HNB0.out⟩
          clear HNB0
          go_wp2_with fail
          go_roundw
          case rel => exact ⟨k + 1, by omega, by rw [HZ.out]; go_num, by rw [HN.out HNB.out]; exact HO2, HB2.out⟩
          case measure => rw [HZ.out]; simp [intOf]; omega
      · have htm2 : z.tmod 2 = 1 := by rw [htm, he]; rfl
        rw [he] at HNB0
        clear htm he
        cases b <;> cases odd
        · have HNB : Box (num29B p _ (k + 1) = false) := ⟨HNB0.out⟩
          clear HNB0
          go_wp2_with fail
          go_roundw
          case rel => exact ⟨k + 1, by omega, by rw [HZ.out]; go_num, by rw [HN.out HNB.out]; exact HO2, HB2.out⟩
          case measure => rw [HZ.out]; simp [intOf]; omega
        · have HNB : Box (num29B p _ (k + 1) = false) := ⟨HNB0.out⟩
          clear HNB0
          go_wp2_with fail
          go_roundw
          case rel => exact ⟨k + 1, by omega, by rw [HZ.out]; go_num, by rw [HN.out HNB.out]; exact HO2, HB2.out⟩
          case measure => rw [HZ.out]; simp [intOf]; omega
        · have HNB : Box (num29B p _ (k + 1) = true) := ⟨HNB0.out⟩
          clear HNB0
          go_wp2_with (at_builtin; refine wpList_append_own _ rfl _ _ _ rfl w.heap.size 3 i0 (.int .i64 0) 1 8 Tryz.underlying24 hi0 hy0 hy1 hy2 rfl (by decide) _ _ _ rfl (HO2.out.alloc _) ⟨w2.heap.size, 0, Option.none⟩ 1 1 [_] rfl rfl (cell_one_new _ _ _) (by intro u hu; simp at hu; subst hu; rfl) (by unfold maxLen; omega) (by omega) (by simp; omega) ?_; intro v3 w3 hown3 hg3 _)
          go_roundw
          case rel =>
            refine ⟨k + 1, by omega, by rw [HZ.out]; go_num, ?_, (HB2.out.alloc hw2 _).grown hg3 (by simp; omega) (fun k hk => (HO2.out.lt k hk).1)⟩
            rw [HY.out HNB.out, List.length_append, is_append, ← HZ.out]
            exact Lib.hid hown3
          case measure => rw [HZ.out]; simp [intOf]; omega
        · have HNB : Box (num29B p _ (k + 1) = true) := ⟨HNB0.out⟩
          clear HNB0
          go_wp2_with (at_builtin; refine wpList_append_own _ rfl _ _ _ rfl w.heap.size 3 i0 (.int .i64 0) 1 8 Tryz.underlying24 hi0 hy0 hy1 hy2 rfl (by decide) _ _ _ rfl (HO2.out.alloc _) ⟨w2.heap.size, 0, Option.none⟩ 1 1 [_] rfl rfl (cell_one_new _ _ _) (by intro u hu; simp at hu; subst hu; rfl) (by unfold maxLen; omega) (by omega) (by simp; omega) ?_; intro v3 w3 hown3 hg3 _)
          go_roundw
          case rel =>
            refine ⟨k + 1, by omega, by rw [HZ.out]; go_num, ?_, (HB2.out.alloc hw2 _).grown hg3 (by simp; omega) (fun k hk => (HO2.out.lt k hk).1)⟩
            rw [HY.out HNB.out, List.length_append, is_append, ← HZ.out]
            exact Lib.hid hown3
          case measure => rw [HZ.out]; simp [intOf]; omega
    · have hkm : k = m := by omega
      have HE := Lib.hid (congrArg (nums29 p odd) hkm)
      obtain ⟨z, hz⟩ : ∃ z : Int, z = ((k + 1 : Nat) : Int) := ⟨_, rfl⟩
      have hzm : (m : Int) < z := by omega
      rw [← hz]
      rw [HE.out] at HO
      clear hz hkm HE hlt hk
      have HB := Lib.hid hbw
      have HO2 : Hid (∃ v, v = u7 ∧ wr.ownsRow w.heap.size 3 1 v (nums29 p odd m).length (is (nums29 p odd m))) := Lib.hid ⟨_, rfl, HO.out⟩
      clear hbw HO
      go_wp2_with fail
      go_ret
      obtain ⟨v, rfl, h⟩ := HO2.out
      exact ⟨⟨_, rfl, h⟩, HB.out⟩

end Go.Proofs.YtcfkclafpbaagaaGreatDoor

namespace Go.Proofs.YtcfkclafpbaagaaGreatDoor
open Go.RowKit Go.Lib Go.Shelf

set_option maxHeartbeats 1000000 in
theorem reduced_any29 (pv xv : Value) (p x : List Int) (n : Nat) (q : Int) (w : World) (hS : Std w) (hp : IsRow w w.heap.size pv p) (hx : IsRow w w.heap.size xv x) (h : RedOk p x n q) :
    Calls Tryz.prog 14 #[pv, xv] w fun e w' => (∃ v, e = .returned (.tuple #[v, .bool (!zeroB (addE x (-q)))]) ∧ ORow w' v (addE x (-q))) ∧ Below w.heap.size w w' := by
  have HR := Lib.hid (ivReduce pv xv p x n q w hS hp hx h)
  obtain ⟨AP, cp, rfl⟩ := hp.shape
  obtain ⟨AX, cx, rfl⟩ := hx.shape
  clear hS hp hx h
  generalize addE x (-q) = y at *
  go_enter Tryz.func14, Tryz.ntmps14
  go_wp2_with fail
  refine HR.out.mono ?_
  rintro e w1 ⟨⟨v, rfl, hr⟩, hb1⟩
  have HZ := Lib.hid (isZero_any v y w1 hr.row)
  have HO := Lib.hid hr
  have HB := Lib.hid hb1
  clear hr hb1 HR
  go_wp2_with fail
  refine HZ.out.mono ?_
  rintro e w2 ⟨rfl, hb2⟩
  go_wp2_with fail
  go_ret2
  exact ⟨⟨v, rfl, HO.out.below hb2⟩, HB.out.trans (hb2.mono HB.out.size)⟩

end Go.Proofs.YtcfkclafpbaagaaGreatDoor

namespace Go.Proofs.YtcfkclafpbaagaaGreatDoor
open Go.RowKit Go.Lib Go.Shelf

set_option maxHeartbeats 1000000 in
/-- The test of target.Integer. -/
theorem intFn_ok (b : Nat) (pv xv : Value) (p x : List Int) (w : World) (hS : Std w) (hc : Cells w b 25 [pv]) (hp : IsRow w w.heap.size pv p) (hx : IsRow w w.heap.size xv x) (h : chkAll p [x] = 0) :
    Calls Tryz.prog 54 #[xv, .pointer (some ⟨b, 0, Option.none⟩)] w fun e w' => e = .returned (.tuple #[.bool (decide (0 < cmpN (num p x) (den p x))), .int .i64 0]) ∧ Below w.heap.size w w' := by
  have HR := Lib.hid (sign_ok pv xv p x w hS hp hx h)
  have h0 := hc.cell 0
  simp at h0
  obtain ⟨AP, cp, rfl⟩ := hp.shape
  obtain ⟨AX, cx, rfl⟩ := hx.shape
  clear hS hp hx h hc
  generalize cmpN (num p x) (den p x) = z at *
  go_enter Tryz.func54, Tryz.ntmps54
  go_wp2_with fail
  refine HR.out.mono ?_
  rintro e w1 ⟨rfl, hb1⟩
  go_wp2_with fail
  go_ret2
  exact ⟨rfl, hb1⟩

end Go.Proofs.YtcfkclafpbaagaaGreatDoor

namespace Go.Proofs.YtcfkclafpbaagaaGreatDoor
open Go.RowKit Go.Lib Go.Shelf

/-- Rows in own memory that lie at an address. -/
def RowsOw (w : World) (A : Option Addr) (l : List (List Int)) : Prop := ∀ (k : Nat) (x : List Int), l[k]? = some x → ∃ ad v, A = some ad ∧ ad.block < w.heap.size ∧ w.cell? (ad.add k) = some v ∧ ORow w v x

theorem filter_next {l : List (List Int)} {k : Nat} (f : List Int → Bool) (hk : k < l.length) : (l.take (k + 1)).filter f = (l.take k).filter f ++ (if f l[k] then [l[k]] else []) := by
  rw [← List.take_append_getElem hk, List.filter_append]
  cases h : f l[k] <;> simp [h]

theorem filter_len (l : List (List Int)) (f : List Int → Bool) (k : Nat) : ((l.take k).filter f).length ≤ k := by
  have := List.length_filter_le f (l.take k)
  rw [List.length_take] at this
  omega

set_option maxRecDepth 100000 in
set_option maxHeartbeats 2000000 in
theorem keptI_ok (b : Nat) (pv : Value) (p : List Int) (A : Option Addr) (c : Nat) (l : List (List Int)) (f : List Int → Bool) (w : World) (hS : Std w) (hc : Cells w b 25 [pv]) (hp : IsRow w w.heap.size pv p) (hl : RowsOw w A l) (h : ∀ x ∈ l, chkAll p [x] = 0 ∧ f x = decide (0 < cmpN (num p x) (den p x))) (hn : l.length ≤ 100000) :
    Calls Tryz.prog 53 #[.slice A l.length c, .func (.func 54) #[] #[.pointer (some ⟨b, 0, Option.none⟩)]] w fun e w' => (∃ v, e = .returned (.tuple #[v, .int .i64 0]) ∧ LRow w' w.heap.size v (l.filter f)) ∧ Below w.heap.size w w' := by
  obtain ⟨i0, hi0, hz0, hz1, hz2⟩ := info_parts Tryz.info_row
  have HS := Lib.hid hS
  have HP := Lib.hid hp
  have HC := Lib.hid hc
  have HL : Box (RowsOw w A l) := ⟨hl⟩
  have HOK : Box (∀ x ∈ l, chkAll p [x] = 0 ∧ f x = decide (0 < cmpN (num p x) (den p x))) := ⟨h⟩
  have hpe := fun (args : Array Value) (W : World) => enters_of (P := Tryz.prog) Tryz.func54 (by kernel_rfl) rfl args W
  clear hS hp hl h hc
  go_enter Tryz.func53, Tryz.ntmps53
  go_wp2_with fail
  go_loopw [6, 13] (fun o i wr => ∃ (k : Nat), k ≤ l.length ∧ i = .int .i64 k ∧ LRow wr w.heap.size o ((l.take k).filter f) ∧ Below w.heap.size w wr) (fun _ i _ => l.length - (intOf i).toNat)
  case atStart => exact ⟨0, Nat.zero_le _, rfl, LRow.nil _ _, Below.refl _ _⟩
  case round =>
    obtain ⟨k, hk, rfl, hlr, hbw⟩ := hrel
    have hsl := filter_len l f k
    by_cases hlt : k < l.length
    · obtain ⟨ad, xv, rfl, hab, hca, hor⟩ := HL.out k l[k] (List.getElem?_eq_getElem hlt)
      have hca' := (hbw.cell (p := ad.add k) (by rw [add_block]; exact hab)).trans hca
      have hok := HOK.out l[k] (List.getElem_mem hlt)
      have HNX := Lib.hid (filter_next f hlt)
      generalize l[k]'hlt = x at *
      have hor' := hor.below hbw
      have HT := Lib.hid (intFn_ok b pv xv p x wr (HS.out.below hbw (Nat.le_refl _)) (HC.out.below hbw HC.out.lt) (HP.out.lift hbw) hor'.row hok.1)
      rw [← hok.2] at HT
      have HOR := Lib.hid hor'
      obtain ⟨AX, cx, rfl⟩ := hor'.shape
      have HLR := Lib.hid hlr
      have HB := Lib.hid hbw
      clear hlr hbw hca hor hor' hok
      cases hf : f x
      · rw [hf] at HT
        have HF := Lib.hid hf
        clear hf
        go_wp2_with fail
        refine HT.out.mono ?_
        rintro e w2 ⟨rfl, hb2⟩
        have HB2 := Lib.hid (HB.out.trans (hb2.mono HB.out.size))
        have HLR2 := Lib.hid (HLR.out.below hb2)
        clear hb2
        go_wp2_with fail
        go_roundw
        case rel => exact ⟨k + 1, by omega, by go_num, by rw [HNX.out, HF.out, if_neg (by decide), List.append_nil]; exact HLR2.out, HB2.out⟩
        case measure => simp [intOf]; omega
      · rw [hf] at HT
        have HF := Lib.hid hf
        clear hf
        go_wp2_with fail
        refine HT.out.mono ?_
        rintro e w2 ⟨rfl, hb2⟩
        obtain ⟨vs, hown, hvs⟩ := HLR.out.below hb2
        have HB2 := Lib.hid (HB.out.trans (hb2.mono HB.out.size))
        have hwk : w.heap.size ≤ w2.heap.size := HB2.out.size
        have HO := Lib.hid hown
        have HVS := Lib.hid hvs
        have HOR2 := Lib.hid (HOR.out.below hb2)
        clear hb2 hown hvs
        go_wp2_with (at_builtin; refine wpList_append_own _ rfl _ _ _ rfl w.heap.size 28 i0 (.slice Option.none 0 0) 1 24 Tryz.underlying27 hi0 hz0 hz1 hz2 rfl (by decide) _ _ _ rfl (HO.out.alloc _) ⟨w2.heap.size, 0, Option.none⟩ 1 1 [_] rfl rfl (cell_one_new _ _ _) (by intro u hu; simp at hu; subst hu; rfl) (by unfold maxLen; omega) (by omega) (by simp; omega) ?_; intro v3 w3 hown3 hg3 _)
        go_roundw
        case rel =>
          refine ⟨k + 1, by omega, by go_num, ?_, (HB2.out.alloc hwk _).grown hg3 (by simp; omega) (fun k hk => (HO.out.lt k hk).1)⟩
          rw [HNX.out, HF.out, if_pos rfl]
          refine LRow.snoc (HO.out.alloc _) (fun j z hz => ?_) (HOR2.out.alloc _) hown3 hg3
          obtain ⟨u, h5, h6⟩ := HVS.out j z hz
          exact ⟨u, h5, h6.alloc _⟩
        case measure => simp [intOf]; omega
    · have hkl : k = l.length := by omega
      have HE : Hid ((l.take k).filter f = l.filter f) := Lib.hid (by rw [hkl, List.take_of_length_le (Nat.le_refl _)])
      rw [HE.out] at hlr
      have HLR := Lib.hid hlr
      have HB := Lib.hid hbw
      clear hlr hbw hkl
      have hge : decide ((k : Int) < (l.length : Int)) = false := by rw [decide_eq_false_iff_not]; omega
      go_wp2_with fail
      go_ret2
      exact ⟨⟨_, rfl, HLR.out⟩, HB.out⟩

end Go.Proofs.YtcfkclafpbaagaaGreatDoor

namespace Go.Proofs.YtcfkclafpbaagaaGreatDoor
open Go.RowKit Go.Lib Go.Shelf

theorem LRow.rowsOw {w : World} {base : Nat} {A : Option Addr} {n c : Nat} {l : List (List Int)} (h : LRow w base (.slice A n c) l) : n = l.length ∧ RowsOw w A l := by
  obtain ⟨vs, h1, h2⟩ := h
  obtain ⟨A', c', e, h3, h4, hr⟩ := Row.of_own h1
  cases e
  refine ⟨rfl, fun k x hx => ?_⟩
  obtain ⟨u, h5, h6⟩ := h2 k x hx
  obtain ⟨ad, e1, h7, h8⟩ := hr.get k u h5
  exact ⟨ad, u, e1, h7, h8, h6⟩

theorem RowsOw.rows {w : World} {A : Option Addr} {l : List (List Int)} (h : RowsOw w A l) : RowsAt w w.heap.size A l := ⟨fun k x hx => by
  obtain ⟨ad, u, e1, h7, h8, h6⟩ := h k x hx
  exact ⟨ad, u, e1, h7, h8, h6.row⟩⟩

theorem RowsOw.lift {w w' : World} {A : Option Addr} {l : List (List Int)} (h : RowsOw w A l) (hb : Below w.heap.size w w') : RowsOw w' A l := fun k x hx => by
  obtain ⟨ad, u, e1, h7, h8, h6⟩ := h k x hx
  exact ⟨ad, u, e1, by have := hb.size; omega, (hb.cell (p := ad.add k) (by rw [add_block]; exact h7)).trans h8, h6.below hb⟩

end Go.Proofs.YtcfkclafpbaagaaGreatDoor

namespace Go.Proofs.YtcfkclafpbaagaaGreatDoor
open Go.RowKit Go.Lib Go.Shelf

/-- A list in own memory of rows that lay there in w. -/
def LAt (w wr : World) (v : Value) (l : List (List Int)) : Prop :=
  ∃ vs : List Value, wr.ownsRow w.heap.size 28 1 v l.length vs ∧ ∀ (j : Nat) (x : List Int), l[j]? = some x → ∃ u, vs[j]? = some u ∧ IsRow w w.heap.size u x
theorem LAt.nil (w wr : World) : LAt w wr (.slice Option.none 0 0) [] := ⟨[], World.ownsRow_nil _ _ _ _, fun j x h => by simp at h⟩
theorem LAt.below {w wr w' : World} {v : Value} {l : List (List Int)} (h : LAt w wr v l) (hb : Below wr.heap.size wr w') : LAt w w' v l := by
  obtain ⟨vs, h1, h2⟩ := h
  exact ⟨vs, own_below h1 hb, h2⟩
theorem LAt.post {w w' : World} {v : Value} {l : List (List Int)} (h : LAt w w' v l) (hb : Below w.heap.size w w') : ListPost l (.returned (.tuple #[v, .int .i64 0])) w' := by
  obtain ⟨vs, h1, h2⟩ := h
  obtain ⟨A', c', e, h3, h4, hr⟩ := Row.of_own h1
  subst e
  refine ⟨A', c', rfl, ⟨fun k x hx => ?_⟩⟩
  obtain ⟨u, h5, h6⟩ := h2 k x hx
  obtain ⟨ad, e1, h7, h8⟩ := hr.get k u h5
  exact ⟨ad, u, e1, h7, h8, h6.lift hb⟩
theorem LAt.snoc {w w' : World} {v' u : Value} {l : List (List Int)} {x : List Int} {vs : List Value} (hvl : vs.length = l.length) (h2 : ∀ (j : Nat) (x : List Int), l[j]? = some x → ∃ u, vs[j]? = some u ∧ IsRow w w.heap.size u x) (hx : IsRow w w.heap.size u x)
    (hown : w'.ownsRow w.heap.size 28 1 v' (l.length + 1) (vs ++ [u])) : LAt w w' v' (l ++ [x]) := by
  refine ⟨vs ++ [u], by rw [List.length_append]; exact hown, fun j y hj => ?_⟩
  by_cases hjl : j < l.length
  · rw [List.getElem?_append_left hjl] at hj
    obtain ⟨z, h5, h6⟩ := h2 j y hj
    exact ⟨z, by rw [List.getElem?_append_left (by omega)]; exact h5, h6⟩
  · have hje : j = l.length := by
      have := (List.getElem?_eq_some_iff.1 hj).1
      rw [List.length_append] at this
      simp at this
      omega
    subst hje
    rw [List.getElem?_append_right (Nat.le_refl _), Nat.sub_self] at hj
    cases hj
    exact ⟨u, by rw [List.getElem?_append_right (by omega), hvl, Nat.sub_self]; rfl, hx⟩

set_option maxRecDepth 100000 in
set_option maxHeartbeats 2000000 in
theorem keptI_rows (b : Nat) (pv : Value) (p : List Int) (A : Option Addr) (c : Nat) (l : List (List Int)) (f : List Int → Bool) (w : World) (hS : Std w) (hc : Cells w b 25 [pv]) (hp : IsRow w w.heap.size pv p) (hl : RowsAt w w.heap.size A l) (h : ∀ x ∈ l, chkAll p [x] = 0 ∧ f x = decide (0 < cmpN (num p x) (den p x))) (hn : l.length ≤ 100000) :
    Calls Tryz.prog 53 #[.slice A l.length c, .func (.func 54) #[] #[.pointer (some ⟨b, 0, Option.none⟩)]] w fun e w' => ListPost (l.filter f) e w' ∧ Below w.heap.size w w' := by
  obtain ⟨i0, hi0, hz0, hz1, hz2⟩ := info_parts Tryz.info_row
  have HS := Lib.hid hS
  have HP := Lib.hid hp
  have HC := Lib.hid hc
  have HL : Box (RowsAt w w.heap.size A l) := ⟨hl⟩
  have HOK : Box (∀ x ∈ l, chkAll p [x] = 0 ∧ f x = decide (0 < cmpN (num p x) (den p x))) := ⟨h⟩
  have hpe := fun (args : Array Value) (W : World) => enters_of (P := Tryz.prog) Tryz.func54 (by kernel_rfl) rfl args W
  clear hS hp hl h hc
  go_enter Tryz.func53, Tryz.ntmps53
  go_wp2_with fail
  go_loopw [6, 13] (fun o i wr => ∃ (k : Nat), k ≤ l.length ∧ i = .int .i64 k ∧ LAt w wr o ((l.take k).filter f) ∧ Below w.heap.size w wr) (fun _ i _ => l.length - (intOf i).toNat)
  case atStart => exact ⟨0, Nat.zero_le _, rfl, LAt.nil _ _, Below.refl _ _⟩
  case round =>
    obtain ⟨k, hk, rfl, hlr, hbw⟩ := hrel
    have hsl := filter_len l f k
    by_cases hlt : k < l.length
    · obtain ⟨ad, xv, rfl, hab, hca, hor⟩ := HL.out.get k l[k] (List.getElem?_eq_getElem hlt)
      have hca' := (hbw.cell (p := ad.add k) (by rw [add_block]; exact hab)).trans hca
      have hok := HOK.out l[k] (List.getElem_mem hlt)
      have HNX := Lib.hid (filter_next f hlt)
      generalize l[k]'hlt = x at *
      have HT := Lib.hid (intFn_ok b pv xv p x wr (HS.out.below hbw (Nat.le_refl _)) (HC.out.below hbw HC.out.lt) (HP.out.lift hbw) (hor.lift hbw) hok.1)
      rw [← hok.2] at HT
      have HOR := Lib.hid hor
      obtain ⟨AX, cx, rfl⟩ := hor.shape
      have HLR := Lib.hid hlr
      have HB := Lib.hid hbw
      clear hlr hbw hca hor hok
      cases hf : f x
      · rw [hf] at HT
        have HF := Lib.hid hf
        clear hf
        go_wp2_with fail
        refine HT.out.mono ?_
        rintro e w2 ⟨rfl, hb2⟩
        have HB2 := Lib.hid (HB.out.trans (hb2.mono HB.out.size))
        have HLR2 := Lib.hid (HLR.out.below hb2)
        clear hb2
        go_wp2_with fail
        go_roundw
        case rel => exact ⟨k + 1, by omega, by go_num, by rw [HNX.out, HF.out, if_neg (by decide), List.append_nil]; exact HLR2.out, HB2.out⟩
        case measure => simp [intOf]; omega
      · rw [hf] at HT
        have HF := Lib.hid hf
        clear hf
        go_wp2_with fail
        refine HT.out.mono ?_
        rintro e w2 ⟨rfl, hb2⟩
        obtain ⟨vs, hown, hvs⟩ := HLR.out.below hb2
        have HB2 := Lib.hid (HB.out.trans (hb2.mono HB.out.size))
        have hwk : w.heap.size ≤ w2.heap.size := HB2.out.size
        have HO := Lib.hid hown
        have HVS := Lib.hid hvs
        have HVL : Hid (vs.length = ((l.take k).filter f).length) := Lib.hid (by have := hown.1; omega)
        clear hb2 hown hvs
        go_wp2_with (at_builtin; refine wpList_append_own _ rfl _ _ _ rfl w.heap.size 28 i0 (.slice Option.none 0 0) 1 24 Tryz.underlying27 hi0 hz0 hz1 hz2 rfl (by decide) _ _ _ rfl (HO.out.alloc _) ⟨w2.heap.size, 0, Option.none⟩ 1 1 [_] rfl rfl (cell_one_new _ _ _) (by intro u hu; simp at hu; subst hu; rfl) (by unfold maxLen; omega) (by omega) (by simp; omega) ?_; intro v3 w3 hown3 hg3 _)
        go_roundw
        case rel =>
          refine ⟨k + 1, by omega, by go_num, ?_, (HB2.out.alloc hwk _).grown hg3 (by simp; omega) (fun k hk => (HO.out.lt k hk).1)⟩
          rw [HNX.out, HF.out, if_pos rfl]
          exact LAt.snoc HVL.out HVS.out HOR.out hown3
        case measure => simp [intOf]; omega
    · have hkl : k = l.length := by omega
      have HE : Hid ((l.take k).filter f = l.filter f) := Lib.hid (by rw [hkl, List.take_of_length_le (Nat.le_refl _)])
      rw [HE.out] at hlr
      have HLR := Lib.hid hlr
      have HB := Lib.hid hbw
      clear hlr hbw hkl
      have hge : decide ((k : Int) < (l.length : Int)) = false := by rw [decide_eq_false_iff_not]; omega
      go_wp2_with fail
      go_ret2
      exact ⟨HLR.out.post HB.out, HB.out⟩

end Go.Proofs.YtcfkclafpbaagaaGreatDoor

namespace Go.Proofs.YtcfkclafpbaagaaGreatDoor
open Go.RowKit Go.Lib Go.Shelf

set_option maxHeartbeats 1000000 in
/-- The test of target.Superparticular. -/
theorem supFn_ok (b : Nat) (pv xv : Value) (p x : List Int) (w : World) (hS : Std w) (hc : Cells w b 25 [pv]) (hp : IsRow w w.heap.size pv p) (hx : IsRow w w.heap.size xv x) (h : chkAll p [x] = 0) :
    Calls Tryz.prog 62 #[xv, .pointer (some ⟨b, 0, Option.none⟩)] w fun e w' => e = .returned (.tuple #[.bool (decDigits (num p x) == decDigits (den p x + 1)), .int .i64 0]) ∧ Below w.heap.size w w' := by
  have HR := Lib.hid (superp_ok pv xv p x w hS hp hx h)
  have h0 := hc.cell 0
  simp at h0
  obtain ⟨AP, cp, rfl⟩ := hp.shape
  obtain ⟨AX, cx, rfl⟩ := hx.shape
  clear hS hp hx h hc
  generalize (decDigits (num p x) == decDigits (den p x + 1)) = z at *
  go_enter Tryz.func62, Tryz.ntmps62
  go_wp2_with fail
  refine HR.out.mono ?_
  rintro e w1 ⟨rfl, hb1⟩
  go_wp2_with fail
  go_ret2
  exact ⟨rfl, hb1⟩

set_option maxRecDepth 100000 in
set_option maxHeartbeats 2000000 in
theorem keptS_rows (b : Nat) (pv : Value) (p : List Int) (A : Option Addr) (c : Nat) (l : List (List Int)) (f : List Int → Bool) (w : World) (hS : Std w) (hc : Cells w b 25 [pv]) (hp : IsRow w w.heap.size pv p) (hl : RowsAt w w.heap.size A l) (h : ∀ x ∈ l, chkAll p [x] = 0 ∧ f x = (decDigits (num p x) == decDigits (den p x + 1))) (hn : l.length ≤ 100000) :
    Calls Tryz.prog 53 #[.slice A l.length c, .func (.func 62) #[] #[.pointer (some ⟨b, 0, Option.none⟩)]] w fun e w' => ListPost (l.filter f) e w' ∧ Below w.heap.size w w' := by
  obtain ⟨i0, hi0, hz0, hz1, hz2⟩ := info_parts Tryz.info_row
  have HS := Lib.hid hS
  have HP := Lib.hid hp
  have HC := Lib.hid hc
  have HL : Box (RowsAt w w.heap.size A l) := ⟨hl⟩
  have HOK : Box (∀ x ∈ l, chkAll p [x] = 0 ∧ f x = (decDigits (num p x) == decDigits (den p x + 1))) := ⟨h⟩
  have hpe := fun (args : Array Value) (W : World) => enters_of (P := Tryz.prog) Tryz.func62 (by kernel_rfl) rfl args W
  clear hS hp hl h hc
  go_enter Tryz.func53, Tryz.ntmps53
  go_wp2_with fail
  go_loopw [6, 13] (fun o i wr => ∃ (k : Nat), k ≤ l.length ∧ i = .int .i64 k ∧ LAt w wr o ((l.take k).filter f) ∧ Below w.heap.size w wr) (fun _ i _ => l.length - (intOf i).toNat)
  case atStart => exact ⟨0, Nat.zero_le _, rfl, LAt.nil _ _, Below.refl _ _⟩
  case round =>
    obtain ⟨k, hk, rfl, hlr, hbw⟩ := hrel
    have hsl := filter_len l f k
    by_cases hlt : k < l.length
    · obtain ⟨ad, xv, rfl, hab, hca, hor⟩ := HL.out.get k l[k] (List.getElem?_eq_getElem hlt)
      have hca' := (hbw.cell (p := ad.add k) (by rw [add_block]; exact hab)).trans hca
      have hok := HOK.out l[k] (List.getElem_mem hlt)
      have HNX := Lib.hid (filter_next f hlt)
      generalize l[k]'hlt = x at *
      have HT := Lib.hid (supFn_ok b pv xv p x wr (HS.out.below hbw (Nat.le_refl _)) (HC.out.below hbw HC.out.lt) (HP.out.lift hbw) (hor.lift hbw) hok.1)
      rw [← hok.2] at HT
      have HOR := Lib.hid hor
      obtain ⟨AX, cx, rfl⟩ := hor.shape
      have HLR := Lib.hid hlr
      have HB := Lib.hid hbw
      clear hlr hbw hca hor hok
      cases hf : f x
      · rw [hf] at HT
        have HF := Lib.hid hf
        clear hf
        go_wp2_with fail
        refine HT.out.mono ?_
        rintro e w2 ⟨rfl, hb2⟩
        have HB2 := Lib.hid (HB.out.trans (hb2.mono HB.out.size))
        have HLR2 := Lib.hid (HLR.out.below hb2)
        clear hb2
        go_wp2_with fail
        go_roundw
        case rel => exact ⟨k + 1, by omega, by go_num, by rw [HNX.out, HF.out, if_neg (by decide), List.append_nil]; exact HLR2.out, HB2.out⟩
        case measure => simp [intOf]; omega
      · rw [hf] at HT
        have HF := Lib.hid hf
        clear hf
        go_wp2_with fail
        refine HT.out.mono ?_
        rintro e w2 ⟨rfl, hb2⟩
        obtain ⟨vs, hown, hvs⟩ := HLR.out.below hb2
        have HB2 := Lib.hid (HB.out.trans (hb2.mono HB.out.size))
        have hwk : w.heap.size ≤ w2.heap.size := HB2.out.size
        have HO := Lib.hid hown
        have HVS := Lib.hid hvs
        have HVL : Hid (vs.length = ((l.take k).filter f).length) := Lib.hid (by have := hown.1; omega)
        clear hb2 hown hvs
        go_wp2_with (at_builtin; refine wpList_append_own _ rfl _ _ _ rfl w.heap.size 28 i0 (.slice Option.none 0 0) 1 24 Tryz.underlying27 hi0 hz0 hz1 hz2 rfl (by decide) _ _ _ rfl (HO.out.alloc _) ⟨w2.heap.size, 0, Option.none⟩ 1 1 [_] rfl rfl (cell_one_new _ _ _) (by intro u hu; simp at hu; subst hu; rfl) (by unfold maxLen; omega) (by omega) (by simp; omega) ?_; intro v3 w3 hown3 hg3 _)
        go_roundw
        case rel =>
          refine ⟨k + 1, by omega, by go_num, ?_, (HB2.out.alloc hwk _).grown hg3 (by simp; omega) (fun k hk => (HO.out.lt k hk).1)⟩
          rw [HNX.out, HF.out, if_pos rfl]
          exact LAt.snoc HVL.out HVS.out HOR.out hown3
        case measure => simp [intOf]; omega
    · have hkl : k = l.length := by omega
      have HE : Hid ((l.take k).filter f = l.filter f) := Lib.hid (by rw [hkl, List.take_of_length_le (Nat.le_refl _)])
      rw [HE.out] at hlr
      have HLR := Lib.hid hlr
      have HB := Lib.hid hbw
      clear hlr hbw hkl
      have hge : decide ((k : Int) < (l.length : Int)) = false := by rw [decide_eq_false_iff_not]; omega
      go_wp2_with fail
      go_ret2
      exact ⟨HLR.out.post HB.out, HB.out⟩

set_option maxHeartbeats 1000000 in
/-- target.Superparticular, given what Integer returns. -/
theorem super_ok (pv : Value) (p : List Int) (m : Int) (R : List (List Int)) (f : List Int → Bool) (w : World) (hS : Std w) (hp : IsRow w w.heap.size pv p) (h : ∀ x ∈ R, chkAll p [x] = 0 ∧ f x = (decDigits (num p x) == decDigits (den p x + 1))) (hn : R.length ≤ 100000)
    (hI : ∀ W, Below w.heap.size w W → Calls Tryz.prog 23 #[pv, .int .i64 m] W fun e w' => ListPost R e w' ∧ Below W.heap.size W w') :
    Calls Tryz.prog 34 #[pv, .int .i64 m] w fun e w' => ListPost (R.filter f) e w' ∧ Below w.heap.size w w' := by
  have HC := Lib.hid (Cells.new w 25 #[pv])
  have hba : Below w.heap.size w (w.alloc (.cells #[pv] 25)) := (Below.refl _ _).alloc (Nat.le_refl _) _
  have HI := Lib.hid (hI _ hba)
  have HBA := Lib.hid hba
  have HS := Lib.hid hS
  have HP := Lib.hid hp
  have HOK : Box (∀ x ∈ R, chkAll p [x] = 0 ∧ f x = (decDigits (num p x) == decDigits (den p x + 1))) := ⟨h⟩
  obtain ⟨AP, cp, rfl⟩ := hp.shape
  clear hS hp h hI hba
  go_enter Tryz.func34, Tryz.ntmps34
  go_wp2_with fail
  refine HI.out.mono ?_
  rintro e w1 ⟨⟨A1, c1, rfl, hr1⟩, hb1⟩
  have HB1 := Lib.hid (HBA.out.trans (hb1.mono HBA.out.size))
  have HK := Lib.hid (keptS_rows w.heap.size _ p A1 c1 R f w1 (HS.out.below HB1.out (Nat.le_refl _)) (HC.out.below hb1 HC.out.lt) (HP.out.lift HB1.out) hr1 HOK.out hn)
  clear hr1 hb1 HI hn
  go_wp2_with fail
  refine HK.out.mono ?_
  rintro e w2 ⟨⟨A2, c2, rfl, hr2⟩, hb2⟩
  have HR2 := Lib.hid hr2
  have HB2 := Lib.hid (HB1.out.trans (hb2.mono HB1.out.size))
  clear hr2 hb2
  go_wp2_with fail
  go_ret2
  exact ⟨⟨A2, c2, rfl, HR2.out⟩, HB2.out⟩

end Go.Proofs.YtcfkclafpbaagaaGreatDoor

namespace Go.Proofs.YtcfkclafpbaagaaGreatDoor
open Go.RowKit Go.Lib Go.Shelf

theorem low_cop {n d : Nat} (h : Nat.gcd n d = 1) : lowN (n : Int) (d : Int) = n ∧ lowD (n : Int) (d : Int) = d := by
  unfold lowN lowD
  rw [Int.natAbs_natCast, Int.natAbs_natCast, h]
  exact ⟨Int.ediv_one _, Int.ediv_one _⟩

/-- What law29.of returns. -/
def OfPost29 (p : List Int) (n d : Nat) (e : Ending) (w' : World) : Prop :=
  (leftTo p n p.length = 1 ∧ leftTo p d p.length = 1 ∧ ∃ v, e = .returned v ∧ IsRow w' w'.heap.size v (expsTo p n d p.length)) ∨
  (¬ (leftTo p n p.length = 1 ∧ leftTo p d p.length = 1) ∧ e = .returned (.slice Option.none 0 0))

set_option maxHeartbeats 1000000 in
theorem of_any29 (pv : Value) (p : List Int) (n d : Nat) (w : World) (hS : Std w) (hpv : IsRow w w.heap.size pv p) (hp : primeErr p = 0) (hn : (decDigits n).length ≤ 18) (hd : (decDigits d).length ≤ 18) (hn9 : n ≤ 1000000) (hd9 : d ≤ 1000000) (hn0 : 0 < n) (hd0 : 0 < d) (hg : Nat.gcd n d = 1) :
    Calls Tryz.prog 35 #[pv, .int .i64 n, .int .i64 d] w fun e w' => OfPost29 p n d e w' ∧ Below w.heap.size w w' := by
  have HO := Lib.hid (fracOf_any (n : Int) (d : Int) w hS (by omega) (by omega) (by omega))
  rw [(low_cop hg).1, (low_cop hg).2, itoa_nat, itoa_nat] at HO
  have HF := Lib.hid (fun W hb => of_yes pv p n d W (hS.below (w := w) (B := w.heap.size) hb (Nat.le_refl _)) (hpv.lift hb) hp hn hd hn0 hd0 hg)
  obtain ⟨AP, cp, rfl⟩ := hpv.shape
  clear hS hpv hp hn hn0 hd hd0 hg hn9 hd9
  generalize decDigits n = la at *
  generalize decDigits d = lb at *
  go_enter Tryz.func35, Tryz.ntmps35
  go_wp2_with fail
  refine HO.out.mono ?_
  rintro e w1 ⟨rfl, hb1⟩
  have hba : Below w.heap.size w (w1.alloc (.cells #[.string ⟨la.toArray⟩, .string ⟨lb.toArray⟩] 53)) := hb1.alloc hb1.size _
  have HF1 := Lib.hid (HF.out _ hba)
  have HBA := Lib.hid hba
  clear hb1 hba
  go_wp2_with fail
  refine HF1.out.mono ?_
  rintro e w2 ⟨hpost, hb2⟩
  have HB2 := Lib.hid (HBA.out.trans (hb2.mono HBA.out.size))
  clear hb2
  rcases hpost with ⟨hs1, hs2, v, rfl, hr⟩ | ⟨hs, rfl⟩
  · have HSM := Lib.hid (And.intro hs1 hs2)
    have HR := Lib.hid hr
    clear hs1 hs2 hr
    go_wp2_with fail
    go_ret
    exact ⟨.inl ⟨HSM.out.1, HSM.out.2, _, rfl, HR.out⟩, HB2.out⟩
  · have HSM := Lib.hid hs
    clear hs
    go_wp2_with fail
    go_ret
    exact ⟨.inr ⟨HSM.out, rfl⟩, HB2.out⟩

end Go.Proofs.YtcfkclafpbaagaaGreatDoor

namespace Go.Proofs.YtcfkclafpbaagaaGreatDoor
open Go.RowKit Go.Lib Go.Shelf

/-- Does each row of the first list lie in the second? -/
def rowsIn (l m : List (List Int)) : Bool := l.all fun x => m.any (sameB x)

theorem rowsIn_step {l m : List (List Int)} {k : Nat} (h : k < l.length) : rowsIn (l.drop k) m = (m.any (sameB l[k]) && rowsIn (l.drop (k + 1)) m) := by
  unfold rowsIn
  rw [List.drop_eq_getElem_cons h, List.all_cons]
theorem anyTo_next {m : List (List Int)} {k : Nat} (f : List Int → Bool) (h : k < m.length) : (m.take (k + 1)).any f = ((m.take k).any f || f m[k]) := by
  rw [← List.take_append_getElem h, List.any_append]
  simp

set_option maxRecDepth 100000 in
set_option maxHeartbeats 2000000 in
theorem within_any29 (A1 A2 : Option Addr) (c1 c2 : Nat) (l m : List (List Int)) (w : World) (h1 : RowsAt w w.heap.size A1 l) (h2 : RowsAt w w.heap.size A2 m) (n1 : l.length ≤ 1000000) (n2 : m.length ≤ 1000000) :
    Calls Tryz.prog 24 #[.slice A1 l.length c1, .slice A2 m.length c2] w fun e w' => e = .returned (.bool (rowsIn l m)) ∧ Below w.heap.size w w' := by
  have H1 := Lib.hid h1
  have H2 := Lib.hid h2
  have HV : Hid (rowsIn l m = rowsIn (l.drop 0) m) := Lib.hid rfl
  clear h1 h2
  generalize rowsIn l m = V at *
  go_enter Tryz.func24, Tryz.ntmps24
  go_wp2_with fail
  go_loopw [5] (fun i wr => ∃ k : Nat, k ≤ l.length ∧ i = .int .i64 k ∧ Box (V = rowsIn (l.drop k) m) ∧ Below w.heap.size w wr) (fun i _ => l.length - (intOf i).toNat)
  case atStart => exact ⟨0, Nat.zero_le _, rfl, ⟨HV.out⟩, Below.refl _ _⟩
  case round =>
    clear HV
    obtain ⟨k, hk, rfl, HV, hbw⟩ := hrel
    by_cases hlt : k < l.length
    · obtain ⟨ad1, v1, rfl, hab1, hca1, hr1⟩ := H1.out.get k l[k] (List.getElem?_eq_getElem hlt)
      have HST := Lib.hid (rowsIn_step (m := m) hlt)
      generalize l[k] = x at *
      have HX := Lib.hid hr1
      obtain ⟨AX, cx, rfl⟩ := hr1.shape
      have HB := Lib.hid hbw
      have hk1 : (0 : Int) ≤ (k : Int) := by omega
      have hk2 : (k : Int) < (l.length : Int) := by omega
      clear hbw hr1
      go_wp2_with fail
      go_loopw [6, 7] (fun o i wr => ∃ j : Nat, j ≤ m.length ∧ i = .int .i64 j ∧ o = .bool ((m.take j).any (sameB x)) ∧ Below w.heap.size w wr) (fun _ i _ => m.length - (intOf i).toNat)
      case atStart => exact ⟨0, Nat.zero_le _, rfl, rfl, HB.out⟩
      case round =>
        clear HB
        obtain ⟨j, hj, rfl, rfl, hbw⟩ := hrel
        by_cases hltm : j < m.length
        · obtain ⟨ad2, v2, rfl, hab2, hca2, hr2⟩ := H2.out.get j m[j] (List.getElem?_eq_getElem hltm)
          have p1 := (hbw.cell (p := ad1.add k) (by rw [add_block]; exact hab1)).trans hca1
          have p2 := (hbw.cell (p := ad2.add j) (by rw [add_block]; exact hab2)).trans hca2
          have HNX := Lib.hid (anyTo_next (sameB x) hltm)
          generalize m[j] = y at *
          have HQ := Lib.hid (fun (W : World) (h : Below wr.heap.size wr W) => rowEqual_any _ v2 x y W ((HX.out.lift hbw).lift h) ((hr2.lift hbw).lift h))
          obtain ⟨AY, cy, rfl⟩ := hr2.shape
          have HB := Lib.hid hbw
          have hj1 : (0 : Int) ≤ (j : Int) := by omega
          have hj2 : (j : Int) < (m.length : Int) := by omega
          have hB : Below wr.heap.size wr wr.drew := below_drew (Below.refl _ _)
          generalize hE : sameB x y = E at *
          clear hbw hca2 hr2 hE
          cases hG : (m.take j).any (sameB x)
          · have HN : Hid ((m.take (j + 1)).any (sameB x) = E) := Lib.hid (by rw [HNX.out, hG]; rfl)
            clear hG HNX
            go_wp2_with fail
            go_region_held3 (fun w' => w'.cell? (ad1.add k) = some (.slice AX x.length cx) ∧ w'.cell? (ad2.add j) = some (.slice AY y.length cy))
              (first | exact ⟨keep_cell p1 hB, keep_cell p2 hB⟩ | go_keep)
              ((first | (go_at_call 38; (with_reducible refine (HQ.out _ hB).mono ?_); rintro e w7 ⟨rfl, hbk⟩; replace hB := hB.trans (hbk.mono hB.size); clear hbk)))
            all_goals
              go_wp2_with fail
              go_roundw
              case rel => exact ⟨j + 1, by omega, by go_num, by rw [HN.out], HB.out.trans (hB.mono HB.out.size)⟩
              case measure => simp [intOf]; omega
          · have HN : Hid ((m.take (j + 1)).any (sameB x) = true) := Lib.hid (by rw [HNX.out, hG]; rfl)
            clear hG HNX hB
            go_wp2_with fail
            go_quiet (fail)
            go_wp2_with fail
            go_roundw
            case rel => exact ⟨j + 1, by omega, by go_num, by rw [HN.out], below_drewN HB.out _⟩
            case measure => simp [intOf]; omega
        · have hjm : j = m.length := by omega
          have HG : Hid ((m.take j).any (sameB x) = m.any (sameB x)) := Lib.hid (by rw [hjm, List.take_of_length_le (Nat.le_refl _)])
          rw [HG.out]
          have HB := Lib.hid hbw
          have HJ := Lib.hid hjm
          clear hbw hjm
          cases hG : m.any (sameB x)
          · have HE : Box (V = false) := ⟨by rw [HV.out, HST.out, hG]; rfl⟩
            clear hG
            go_wp2_with fail
            go_ret
            exact ⟨ret1 (congrArg Value.bool HE.out.symm), HB.out⟩
          · have HE : Box (V = rowsIn (l.drop (k + 1)) m) := ⟨by rw [HV.out, HST.out, hG]; rfl⟩
            clear hG
            go_wp2_with fail
            go_roundw
            case rel => exact ⟨k + 1, by omega, by go_num, HE, HB.out⟩
            case measure => simp [intOf]; omega
    · have hkl : k = l.length := by omega
      have HE : Box (V = true) := ⟨by rw [HV.out, hkl, List.drop_of_length_le (Nat.le_refl _)]; rfl⟩
      clear hkl
      go_wp2_with fail
      go_ret
      exact ⟨ret1 (congrArg Value.bool HE.out.symm), hbw⟩

end Go.Proofs.YtcfkclafpbaagaaGreatDoor
