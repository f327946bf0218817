/- The constants of schismalaw39.known. slices.EqualFunc over lists of rows; schismalaw39.same (printed by gen_ce.py). schismalaw39.known. -/
import Derived.Test.YteenfcmnmenigaaGreatDoorGCE
import Derived.Test.YteenfcmnmenigaaGreatDoorGCD
import Derived.Test.YteenfcmnmenigaaGreatDoorGCF
import Derived.Test.YteenfcmnmenigaaGreatDoorREqG
namespace Go.Proofs.YteenfcmnmenigaaGreatDoor
open Go.RowKit Go.Lib

/-! Forms that the kernel can evaluate. -/
def leftF : Nat → Nat → Nat → Nat
  | 0, _, n => n
  | f + 1, p, n => if 2 ≤ p ∧ 0 < n ∧ n % p = 0 then leftF f p (n / p) else n
def multF : Nat → Nat → Nat → Nat
  | 0, _, _ => 0
  | f + 1, p, n => if 2 ≤ p ∧ 0 < n ∧ n % p = 0 then multF f p (n / p) + 1 else 0
theorem left_F : ∀ f p n, n ≤ f → left p n = leftF f p n
  | 0, p, n, h => by
    rw [left_no (by omega)]
    rfl
  | f + 1, p, n, h => by
    unfold leftF
    by_cases hc : 2 ≤ p ∧ 0 < n ∧ n % p = 0
    · have := Nat.div_lt_self hc.2.1 (show 1 < p by omega)
      rw [if_pos hc, left_yes hc, left_F f p (n / p) (by omega)]
    · rw [if_neg hc, left_no hc]
theorem mult_F : ∀ f p n, n ≤ f → mult p n = multF f p n
  | 0, p, n, h => by
    rw [mult_no (by omega)]
    rfl
  | f + 1, p, n, h => by
    unfold multF
    by_cases hc : 2 ≤ p ∧ 0 < n ∧ n % p = 0
    · have := Nat.div_lt_self hc.2.1 (show 1 < p by omega)
      rw [if_pos hc, mult_yes hc, mult_F f p (n / p) (by omega)]
    · rw [if_neg hc, mult_no hc]
def leftToF (p : List Int) (n : Nat) : Nat → Nat
  | 0 => n
  | k + 1 => leftF (leftToF p n k) (p[k]?.getD 0).toNat (leftToF p n k)
theorem leftTo_F (p : List Int) (n : Nat) : ∀ k, leftTo p n k = leftToF p n k
  | 0 => rfl
  | k + 1 => by rw [leftTo, leftToF, leftTo_F p n k, left_F _ _ _ (Nat.le_refl _)]
def expsToF (p : List Int) (n d : Nat) : Nat → List Int
  | 0 => []
  | k + 1 => expsToF p n d k ++ [(multF (leftToF p n k) (p[k]?.getD 0).toNat (leftToF p n k) : Int) - (multF (leftToF p d k) (p[k]?.getD 0).toNat (leftToF p d k) : Int)]
theorem expsTo_F (p : List Int) (n d : Nat) : ∀ k, expsTo p n d k = expsToF p n d k
  | 0 => rfl
  | k + 1 => by rw [expsTo, expsToF, expsTo_F p n d k, leftTo_F, leftTo_F, mult_F _ _ _ (Nat.le_refl _), mult_F _ _ _ (Nat.le_refl _)]

theorem smR_bd {p x : List Int} (h : x.length = p.length) (hx : ∀ z ∈ x, z.natAbs ≤ 12) : SmR p x := by
  have h9 : ∀ i : Nat, (x[i]?.getD 0).natAbs ≤ 12 := fun i => by
    by_cases hi : i < x.length
    · rw [List.getElem?_eq_getElem hi]; exact hx _ (List.getElem_mem hi)
    · rw [List.getElem?_eq_none (by omega)]; decide
  exact ⟨h, by have := h9 0; omega, fun i _ => h9 i⟩

def kP : List Int := [2, 3, 5]
def kS : List UInt8 := [52, 58, 53, 58, 54]
def kC : List (List Int) := [[0, 0, 0], [-2, 0, 1], [-1, 1, 0]]
def kD : List (List Int) := [[0, 0, 0], [1, 1, -1], [-1, 1, 0]]
theorem kc_read : readL kS = some [4, 5, 6] := by decide +kernel
theorem kc_pe : primeErr kP = 0 := by decide +kernel
theorem kc_err : parErr kP kS = 0 := by
  unfold parErr
  rw [kc_read, kc_pe, if_neg (by decide)]
  show parL kP [4, 5, 6] = 0
  unfold parL
  rw [if_neg (by decide)]
  have : List.all [4, 5, 6] (facB kP (([4, 5, 6] : List Nat)[0]?.getD 0)) = true := by
    have : ∀ n ∈ ([4, 5, 6] : List Nat), facB kP 4 n = true := by
      intro n hn
      unfold facB
      rw [smB, leftTo_F, leftTo_F]
      have : ∀ n ∈ ([4, 5, 6] : List Nat), (decide (leftToF kP (n / Nat.gcd n 4) 3 = 1) && decide (leftToF kP (4 / Nat.gcd n 4) 3 = 1)) = true := by decide +kernel
      exact this n hn
    exact List.all_eq_true.2 this
  rw [if_pos this]
theorem kc_rows : parRows kP kS = kC := by
  unfold parRows
  rw [kc_read]
  show facL kP [4, 5, 6] 3 = kC
  have e : facL kP [4, 5, 6] 3 = ([4, 5, 6] : List Nat).map fun n => expsToF kP (n / Nat.gcd n 4) (4 / Nat.gcd n 4) 3 := List.map_congr_left (fun n _ => expsTo_F kP (n / Nat.gcd n 4) (4 / Nat.gcd n 4) 3)
  rw [e]
  decide +kernel
theorem kc_chord : ChOk kP kC := chOk_of (by decide +kernel)
theorem kd_chord : ChOk kP kD := chOk_of (by decide +kernel)
theorem kc_dual : dualL kC = kD := by decide +kernel
theorem kc_difs : ∀ x ∈ kC, chkAll kP [difI (kC[kC.length - 1]?.getD []) x] = 0 := by decide +kernel
theorem kd_num : NumOk kP false kD := ⟨by decide +kernel, by decide, by decide +kernel, by decide +kernel, by decide +kernel⟩
theorem kc_num : NumOk kP true kC := ⟨by decide +kernel, by decide, by decide +kernel, by decide +kernel, by decide +kernel⟩
theorem kd_nums : numbersL kP false kD = [10, 12, 15] := by decide +kernel
theorem kc_nums : numbersL kP true kC = [15, 12, 10] := by decide +kernel
theorem kc_tab : ∃ a A, TabOk kP a A := tabOk 0
theorem kc_smc : SmC kP kC := ⟨kc_chord, by decide, kc_tab, by
  have h : ∀ x ∈ kC, ∀ y ∈ kC, (difI x y).length = kP.length ∧ ∀ z ∈ difI x y, z.natAbs ≤ 12 := by decide +kernel
  exact fun x hx y hy => smR_bd (h x hx y hy).1 (h x hx y hy).2⟩
theorem kc_close : closeL kP kC = kC := by decide +kernel
def kI : List (List (List Int)) := [kC, [[0, 0, 0], [1, 1, -1], [3, 0, -1]], [[0, 0, 0], [2, -1, 0], [0, -1, 1]]]
theorem kc_inv : invL kP kC = kI := by decide +kernel

end Go.Proofs.YteenfcmnmenigaaGreatDoor

namespace Go.Proofs.YteenfcmnmenigaaGreatDoor
open Go.RowKit Go.Lib

def rowsEq (l m : List (List Int)) : Bool := decide (l = m)
theorem rowsEq_len {l m : List (List Int)} (h : l.length ≠ m.length) : rowsEq l m = false := decide_eq_false fun e => h (by rw [e])
theorem rowsEq_drop {l m : List (List Int)} {k : Nat} (h1 : k < l.length) (h2 : k < m.length) : rowsEq (l.drop k) (m.drop k) = (sameB (l[k]'h1) (m[k]'h2) && rowsEq (l.drop (k + 1)) (m.drop (k + 1))) := by
  rw [List.drop_eq_getElem_cons h1, List.drop_eq_getElem_cons h2]
  unfold rowsEq sameB
  generalize l[k]'h1 = a
  generalize m[k]'h2 = b
  generalize List.drop (k + 1) l = s
  generalize List.drop (k + 1) m = t
  by_cases e1 : a = b
  · by_cases e2 : s = t
    · simp [e1, e2]
    · simp [e1, e2]
  · simp [e1]

set_option maxHeartbeats 1000000 in
theorem same1_39 (v1 v2 : Value) (x y : List Int) (w : World) (h1 : IsRow w w.heap.size v1 x) (h2 : IsRow w w.heap.size v2 y) :
    Calls Tryz.prog 46 #[v1, v2] w fun e w' => e = .returned (.bool (sameB x y)) ∧ Below w.heap.size w w' := by
  have HQ := Lib.hid (slEq_any v1 v2 x y w h1 h2)
  obtain ⟨A1, c1, rfl⟩ := h1.shape
  obtain ⟨A2, c2, rfl⟩ := h2.shape
  clear h1 h2
  go_enter Tryz.func46, Tryz.ntmps46
  go_wp2_with fail
  refine HQ.out.mono ?_
  rintro e w1 ⟨rfl, hb1⟩
  go_wp2_with fail
  go_ret
  exact ⟨rfl, hb1⟩

set_option maxRecDepth 100000 in
set_option maxHeartbeats 2000000 in
theorem eqFunc_row (A1 A2 : Option Addr) (c1 c2 : Nat) (l m : List (List Int)) (w : World) (h1 : RowsAt w w.heap.size A1 l) (h2 : RowsAt w w.heap.size A2 m) (hl : l.length ≤ 1000000) :
    Calls Tryz.prog 45 #[.slice A1 l.length c1, .slice A2 m.length c2, .func (.func 64) #[] #[]] w fun e w' => e = .returned (.bool (rowsEq l m)) ∧ Below w.heap.size w w' := by
  have H1 : Box (RowsAt w w.heap.size A1 l) := ⟨h1⟩
  have H2 : Box (RowsAt w w.heap.size A2 m) := ⟨h2⟩
  clear h1 h2
  by_cases hlm : l.length = m.length
  · have hne : ((l.length : Int) != (m.length : Int)) = false := by simp [hlm]
    have HLM : Box (l.length = m.length) := ⟨hlm⟩
    clear hlm
    obtain ⟨out, HO⟩ : ∃ out, Box (rowsEq (l.drop 0) (m.drop 0) = out ∧ rowsEq l m = out) := ⟨_, ⟨rfl, rfl⟩⟩
    rw [HO.out.2]
    go_enter Tryz.func45, Tryz.ntmps45
    go_wp2_with fail
    go_loopw [17] (fun i wr => ∃ k : Nat, k ≤ l.length ∧ i = .int .i64 k ∧ Box (rowsEq (l.drop k) (m.drop k) = out) ∧ Below w.heap.size w wr) (fun i _ => l.length - (intOf i).toNat)
    case atStart => exact ⟨0, Nat.zero_le _, rfl, ⟨HO.out.1⟩, Below.refl _ _⟩
    case round =>
      obtain ⟨k, hk, rfl, HK, hbw⟩ := hrel
      by_cases hlt : k < l.length
      · have hlt2 : k < m.length := by rw [← HLM.out]; exact hlt
        obtain ⟨b1, o1, r1, rfl, hb1, hc1, hr1⟩ := rows_pl H1.out (List.getElem?_eq_getElem hlt)
        obtain ⟨b2, o2, r2, rfl, hb2, hc2, hr2⟩ := rows_pl H2.out (List.getElem?_eq_getElem hlt2)
        have p1 := (hbw.cell (p := ⟨b1, o1 + k, Option.none⟩) hb1).trans hc1
        have p2 := (hbw.cell (p := ⟨b2, o2 + k, Option.none⟩) hb2).trans hc2
        have HS : Box (out = (sameB (l[k]'hlt) (m[k]'hlt2) && rowsEq (l.drop (k + 1)) (m.drop (k + 1)))) := ⟨by rw [← HK.out, rowsEq_drop hlt hlt2]⟩
        have HE := Lib.hid (rowEqual_any r1 r2 (l[k]'hlt) (m[k]'hlt2) wr (hr1.lift hbw) (hr2.lift hbw))
        generalize l[k]'hlt = t1 at *
        generalize m[k]'hlt2 = t2 at *
        obtain ⟨A1, C1, rfl⟩ := hr1.shape
        obtain ⟨A2, C2, rfl⟩ := hr2.shape
        generalize sameB t1 t2 = tb at *
        have hk2 : (k : Int) < (m.length : Int) := by omega
        clear hc1 hc2 hr1 hr2
        cases tb with
        | false =>
          have HF : Box (out = false) := ⟨by rw [HS.out]; rfl⟩
          clear HS HK HO
          go_wp2_with fail
          refine HE.out.mono ?_
          rintro e w1 ⟨rfl, hb1⟩
          have hbn := hbw.trans (hb1.mono hbw.size)
          clear hb1
          go_wp2_with fail
          go_ret
          exact ⟨ret1 (congrArg Value.bool HF.out.symm), hbn⟩
        | true =>
          have HF : Box (rowsEq (l.drop (k + 1)) (m.drop (k + 1)) = out) := ⟨by rw [HS.out]; rfl⟩
          clear HS HK HO
          go_wp2_with fail
          refine HE.out.mono ?_
          rintro e w1 ⟨rfl, hb1⟩
          have hbn := hbw.trans (hb1.mono hbw.size)
          clear hb1
          go_wp2_with fail
          go_roundw
          case rel => exact ⟨k + 1, by omega, by go_num, HF, hbn⟩
          case measure => simp [intOf]; omega
      · obtain rfl : k = l.length := by omega
        have HF : Box (out = true) := ⟨by rw [← HK.out, List.drop_length, HLM.out, List.drop_length]; rfl⟩
        go_wp2_with fail
        go_ret
        exact ⟨ret1 (congrArg Value.bool HF.out.symm), hbw⟩
  · have hne : ((l.length : Int) != (m.length : Int)) = true := by rw [bne_iff_ne]; omega
    have HE : Box (rowsEq l m = false) := ⟨rowsEq_len hlm⟩
    go_enter Tryz.func45, Tryz.ntmps45
    go_wp2_with fail
    go_ret
    exact ⟨ret1 (congrArg Value.bool HE.out.symm), Below.refl _ _⟩

set_option maxRecDepth 100000 in
set_option maxHeartbeats 2000000 in
theorem eqFunc_same (A1 A2 : Option Addr) (c1 c2 : Nat) (l m : List (List Int)) (w : World) (h1 : RowsAt w w.heap.size A1 l) (h2 : RowsAt w w.heap.size A2 m) (hl : l.length ≤ 1000000) :
    Calls Tryz.prog 45 #[.slice A1 l.length c1, .slice A2 m.length c2, .func (.func 46) #[] #[]] w fun e w' => e = .returned (.bool (rowsEq l m)) ∧ Below w.heap.size w w' := by
  have H1 : Box (RowsAt w w.heap.size A1 l) := ⟨h1⟩
  have H2 : Box (RowsAt w w.heap.size A2 m) := ⟨h2⟩
  clear h1 h2
  by_cases hlm : l.length = m.length
  · have hne : ((l.length : Int) != (m.length : Int)) = false := by simp [hlm]
    have HLM : Box (l.length = m.length) := ⟨hlm⟩
    clear hlm
    obtain ⟨out, HO⟩ : ∃ out, Box (rowsEq (l.drop 0) (m.drop 0) = out ∧ rowsEq l m = out) := ⟨_, ⟨rfl, rfl⟩⟩
    rw [HO.out.2]
    go_enter Tryz.func45, Tryz.ntmps45
    go_wp2_with fail
    go_loopw [17] (fun i wr => ∃ k : Nat, k ≤ l.length ∧ i = .int .i64 k ∧ Box (rowsEq (l.drop k) (m.drop k) = out) ∧ Below w.heap.size w wr) (fun i _ => l.length - (intOf i).toNat)
    case atStart => exact ⟨0, Nat.zero_le _, rfl, ⟨HO.out.1⟩, Below.refl _ _⟩
    case round =>
      obtain ⟨k, hk, rfl, HK, hbw⟩ := hrel
      by_cases hlt : k < l.length
      · have hlt2 : k < m.length := by rw [← HLM.out]; exact hlt
        obtain ⟨b1, o1, r1, rfl, hb1, hc1, hr1⟩ := rows_pl H1.out (List.getElem?_eq_getElem hlt)
        obtain ⟨b2, o2, r2, rfl, hb2, hc2, hr2⟩ := rows_pl H2.out (List.getElem?_eq_getElem hlt2)
        have p1 := (hbw.cell (p := ⟨b1, o1 + k, Option.none⟩) hb1).trans hc1
        have p2 := (hbw.cell (p := ⟨b2, o2 + k, Option.none⟩) hb2).trans hc2
        have HS : Box (out = (sameB (l[k]'hlt) (m[k]'hlt2) && rowsEq (l.drop (k + 1)) (m.drop (k + 1)))) := ⟨by rw [← HK.out, rowsEq_drop hlt hlt2]⟩
        have HE := Lib.hid (same1_39 r1 r2 (l[k]'hlt) (m[k]'hlt2) wr (hr1.lift hbw) (hr2.lift hbw))
        generalize l[k]'hlt = t1 at *
        generalize m[k]'hlt2 = t2 at *
        obtain ⟨A1, C1, rfl⟩ := hr1.shape
        obtain ⟨A2, C2, rfl⟩ := hr2.shape
        generalize sameB t1 t2 = tb at *
        have hk2 : (k : Int) < (m.length : Int) := by omega
        clear hc1 hc2 hr1 hr2
        cases tb with
        | false =>
          have HF : Box (out = false) := ⟨by rw [HS.out]; rfl⟩
          clear HS HK HO
          go_wp2_with fail
          refine HE.out.mono ?_
          rintro e w1 ⟨rfl, hb1⟩
          have hbn := hbw.trans (hb1.mono hbw.size)
          clear hb1
          go_wp2_with fail
          go_ret
          exact ⟨ret1 (congrArg Value.bool HF.out.symm), hbn⟩
        | true =>
          have HF : Box (rowsEq (l.drop (k + 1)) (m.drop (k + 1)) = out) := ⟨by rw [HS.out]; rfl⟩
          clear HS HK HO
          go_wp2_with fail
          refine HE.out.mono ?_
          rintro e w1 ⟨rfl, hb1⟩
          have hbn := hbw.trans (hb1.mono hbw.size)
          clear hb1
          go_wp2_with fail
          go_roundw
          case rel => exact ⟨k + 1, by omega, by go_num, HF, hbn⟩
          case measure => simp [intOf]; omega
      · obtain rfl : k = l.length := by omega
        have HF : Box (out = true) := ⟨by rw [← HK.out, List.drop_length, HLM.out, List.drop_length]; rfl⟩
        go_wp2_with fail
        go_ret
        exact ⟨ret1 (congrArg Value.bool HF.out.symm), hbw⟩
  · have hne : ((l.length : Int) != (m.length : Int)) = true := by rw [bne_iff_ne]; omega
    have HE : Box (rowsEq l m = false) := ⟨rowsEq_len hlm⟩
    go_enter Tryz.func45, Tryz.ntmps45
    go_wp2_with fail
    go_ret
    exact ⟨ret1 (congrArg Value.bool HE.out.symm), Below.refl _ _⟩

set_option maxHeartbeats 1000000 in
theorem same_any39 (A1 A2 : Option Addr) (c1 c2 : Nat) (l m : List (List Int)) (w : World) (h1 : RowsAt w w.heap.size A1 l) (h2 : RowsAt w w.heap.size A2 m) (hl : l.length ≤ 1000000) :
    Calls Tryz.prog 13 #[.slice A1 l.length c1, .slice A2 m.length c2] w fun e w' => e = .returned (.bool (rowsEq l m)) ∧ Below w.heap.size w w' := by
  have HQ := Lib.hid (eqFunc_same A1 A2 c1 c2 l m w h1 h2 hl)
  clear h1 h2
  generalize rowsEq l m = out at *
  go_enter Tryz.func13, Tryz.ntmps13
  go_wp2_with fail
  refine HQ.out.mono ?_
  rintro e w1 ⟨rfl, hb1⟩
  go_wp2_with fail
  go_ret
  exact ⟨rfl, hb1⟩

end Go.Proofs.YteenfcmnmenigaaGreatDoor

namespace Go.Proofs.YteenfcmnmenigaaGreatDoor
open Go.RowKit Go.Lib

/-- The cells of a row of three ints. -/
def tri (x : List Int) : Array Value := (is x).toArray
/-- Three rows laid out, then their list. -/
def lay3 (w : World) (x y z : List Int) : World := (((w.alloc (.cells (tri x) 3)).alloc (.cells (tri y) 3)).alloc (.cells (tri z) 3)).alloc (.cells #[.slice (some ⟨w.heap.size, 0, Option.none⟩) 3 3, .slice (some ⟨w.heap.size + 1, 0, Option.none⟩) 3 3, .slice (some ⟨w.heap.size + 2, 0, Option.none⟩) 3 3] 31)
theorem lay3_below (w : World) (x y z : List Int) : Below w.heap.size w (lay3 w x y z) := by
  unfold lay3
  exact ((((Below.refl _ _).alloc (Nat.le_refl _) _).alloc (by simp) _).alloc (by simp; omega) _).alloc (by simp; omega) _
theorem lay3_rows (w : World) (x y z : List Int) (hx : x.length = 3) (hy : y.length = 3) (hz : z.length = 3) : RowsAt (lay3 w x y z) (lay3 w x y z).heap.size (some ⟨w.heap.size + 3, 0, Option.none⟩) [x, y, z] := by
  have hsz : (lay3 w x y z).heap.size = w.heap.size + 4 := by unfold lay3; simp
  have row : ∀ (W : World) (u : List Int), u.length = 3 → IsRow (W.alloc (.cells (tri u) 3)) (W.heap.size + 1) (.slice (some ⟨W.heap.size, 0, Option.none⟩) 3 3) u := fun W u hu => isRow_new W 3 u (tri u) (by unfold tri; rfl) (by omega) 3 hu
  have h1 : IsRow (lay3 w x y z) (lay3 w x y z).heap.size (.slice (some ⟨w.heap.size, 0, Option.none⟩) 3 3) x := by
    have := row w x hx
    rw [hsz]
    unfold lay3
    exact (((this.alloc (by simp) _).alloc (by simp) _).alloc (by simp) _).up (by omega)
  have h2 : IsRow (lay3 w x y z) (lay3 w x y z).heap.size (.slice (some ⟨w.heap.size + 1, 0, Option.none⟩) 3 3) y := by
    have := row (w.alloc (.cells (tri x) 3)) y hy
    rw [World.size_alloc] at this
    rw [hsz]
    unfold lay3
    exact ((this.alloc (by simp) _).alloc (by simp) _).up (by omega)
  have h3 : IsRow (lay3 w x y z) (lay3 w x y z).heap.size (.slice (some ⟨w.heap.size + 2, 0, Option.none⟩) 3 3) z := by
    have := row ((w.alloc (.cells (tri x) 3)).alloc (.cells (tri y) 3)) z hz
    rw [World.size_alloc, World.size_alloc] at this
    rw [hsz]
    unfold lay3
    exact (this.alloc (by simp) _).up (by omega)
  have hc : Cells (lay3 w x y z) (w.heap.size + 3) 31 [.slice (some ⟨w.heap.size, 0, Option.none⟩) 3 3, .slice (some ⟨w.heap.size + 1, 0, Option.none⟩) 3 3, .slice (some ⟨w.heap.size + 2, 0, Option.none⟩) 3 3] := by
    have := Cells.new (((w.alloc (.cells (tri x) 3)).alloc (.cells (tri y) 3)).alloc (.cells (tri z) 3)) 31 #[.slice (some ⟨w.heap.size, 0, Option.none⟩) 3 3, .slice (some ⟨w.heap.size + 1, 0, Option.none⟩) 3 3, .slice (some ⟨w.heap.size + 2, 0, Option.none⟩) 3 3]
    rw [World.size_alloc, World.size_alloc, World.size_alloc] at this
    exact this
  refine ⟨fun k u hu => ?_⟩
  have hk := (List.getElem?_eq_some_iff.1 hu).1
  have hb : w.heap.size + 3 < (lay3 w x y z).heap.size := by omega
  match k, hk with
  | 0, _ => cases hu; exact ⟨_, _, rfl, hb, by rw [Lib.add_plain, hc.cell]; rfl, h1⟩
  | 1, _ => cases hu; exact ⟨_, _, rfl, hb, by rw [Lib.add_plain, hc.cell]; rfl, h2⟩
  | 2, _ => cases hu; exact ⟨_, _, rfl, hb, by rw [Lib.add_plain, hc.cell]; rfl, h3⟩

theorem LLRow.at {w : World} {base : Nat} {A : Option Addr} {n c k : Nat} {l : List (List (List Int))} (h : LLRow w base (.slice A n c) l) (hk : k < l.length) : ∃ g u, A = some ⟨g, 0, Option.none⟩ ∧ g < w.heap.size ∧ w.cell? ⟨g, k, Option.none⟩ = some u ∧ LRow w base u (l[k]'hk) := by
  obtain ⟨vs, h1, h2⟩ := h
  obtain ⟨u, h3, h4⟩ := h2 k _ (List.getElem?_eq_getElem hk)
  rcases h1.2 with ⟨_, h0⟩ | ⟨g, cap, cur, e, _⟩
  · omega
  · cases e
    exact ⟨g, u, rfl, (h1.lt g rfl).2, (h1.cellAt k (by omega)).trans h3, h4⟩

theorem kd_txt : chTxt kP kD = [49, 48, 58, 49, 50, 58, 49, 53] := by unfold chTxt; rw [kd_nums]; decide +kernel

set_option maxRecDepth 100000 in
set_option maxHeartbeats 8000000 in
theorem known_any39 (w : World) (m : Int) (hS : Std w) (hm : w.cell? ⟨2, 0, Option.none⟩ = some (.int .i64 m)) :
    Calls Tryz.prog 7 #[] w fun e w' => e = .returned (.bool true) ∧ Below w.heap.size w w' := by
  obtain ⟨W0, hW0⟩ : ∃ W0, W0 = w.alloc (.cells #[.int .i64 2, .int .i64 3, .int .i64 5] 3) := ⟨_, rfl⟩
  have hb0 : Below w.heap.size w W0 := by rw [hW0]; exact (Below.refl _ _).alloc (Nat.le_refl _) _
  have hp0 : IsRow W0 W0.heap.size (.slice (some ⟨w.heap.size, 0, Option.none⟩) 3 3) kP := by
    have := isRow_new w 3 kP #[.int .i64 2, .int .i64 3, .int .i64 5] rfl (by decide) 3 rfl
    rw [hW0, World.size_alloc]; exact this
  have hs0 := hS.below hb0 (Nat.le_refl _)
  have HPA := Lib.hid (chParse_any _ kP kS m W0 hs0 hp0 (keep_cell hm hb0) (by decide))
  rw [kc_err, kc_rows] at HPA
  have HP := Lib.hid hp0
  have HS := Lib.hid hs0
  have HB := Lib.hid hb0
  clear hp0 hs0 hS hb0 hm
  go_enter Tryz.func7, Tryz.ntmps7
  go_wp2_with fail
  rw [← hW0]
  clear hW0
  refine HPA.out.mono ?_
  rintro e w1 ⟨hpo, hb1⟩
  rcases hpo with ⟨_, v1, rfl, hl1⟩ | ⟨hx, _⟩
  case inr => exact absurd rfl hx
  obtain ⟨A1, c1, e1⟩ := hl1.shape
  obtain rfl : v1 = .slice A1 3 c1 := e1
  have HP1 := Lib.hid (HP.out.lift hb1)
  have HS1 := Lib.hid (HS.out.below hb1 (Nat.le_refl _))
  have HB1 := Lib.hid (HB.out.trans (hb1.mono HB.out.size))
  have HL1 := Lib.hid hl1.rows.2
  have HDU := Lib.hid (chDual_ok _ kP A1 c1 kC w1 HS1.out HP1.out HL1.out kc_chord kc_difs)
  rw [kc_dual] at HDU
  clear HP HS HB HPA hb1 hl1
  go_wp2_with fail
  refine HDU.out.mono ?_
  rintro e w2 ⟨⟨v2, rfl, hl2⟩, hb2⟩
  obtain ⟨A2, c2, e2⟩ := hl2.shape
  obtain rfl : v2 = .slice A2 3 c2 := e2
  have HP2 := Lib.hid (HP1.out.lift hb2)
  have HS2 := Lib.hid (HS1.out.below hb2 (Nat.le_refl _))
  have HB2 := Lib.hid (HB1.out.trans (hb2.mono HB1.out.size))
  have HL2 := Lib.hid (HL1.out.lift hb2)
  have HTX := Lib.hid (chText_ok _ kP A2 c2 kD w2 HS2.out HP2.out hl2.rows.2 kd_chord kd_num (by rw [kd_txt]; decide))
  rw [kd_txt] at HTX
  clear HP1 HS1 HB1 HDU hb2 hl2 HL1
  go_wp2_with fail
  refine HTX.out.mono ?_
  rintro e w3 ⟨rfl, hb3⟩
  have HP3 := Lib.hid (HP2.out.lift hb3)
  have HS3 := Lib.hid (HS2.out.below hb3 (Nat.le_refl _))
  have HB3 := Lib.hid (HB2.out.trans (hb3.mono HB2.out.size))
  have HL3 := Lib.hid (HL2.out.lift hb3)
  have HIN := Lib.hid (chInv_ok _ kP A1 c1 kC w3 HS3.out HP3.out HL3.out kc_smc (by rw [kc_close]; exact kc_smc.sm) (by rw [kc_close]; decide) (by rw [kc_close]; decide) (by rw [kc_close]; exact kc_chord.chk))
  rw [kc_inv] at HIN
  clear HP2 HS2 HB2 HTX hb3 HL2
  go_wp2_with fail
  refine HIN.out.mono ?_
  rintro e w4 ⟨⟨v4, rfl, hl4⟩, hb4⟩
  obtain ⟨A4, c4, e4⟩ := hl4.shape
  obtain rfl : v4 = .slice A4 3 c4 := e4
  have HP4 := Lib.hid (HP3.out.lift hb4)
  have HS4 := Lib.hid (HS3.out.below hb4 (Nat.le_refl _))
  have HB4 := Lib.hid (HB3.out.trans (hb4.mono HB3.out.size))
  have HL4 := Lib.hid (HL3.out.lift hb4)
  have HUT := Lib.hid (chUtonal_ok _ kP A1 c1 kC w4 HS4.out HP4.out HL4.out kc_chord kc_num)
  rw [kc_nums] at HUT
  have HI4 := Lib.hid hl4
  clear HP3 HS3 HB3 HIN hb4 HL3 hl4
  go_wp2_with fail
  refine HUT.out.mono ?_
  rintro e w5 ⟨⟨v5, rfl, ht5⟩, hb5⟩
  obtain ⟨A5, c5, e5, _, _, ht5'⟩ := Row.of_own ht5
  obtain rfl : v5 = .slice A5 3 c5 := e5
  have HB5 := Lib.hid (HB4.out.trans (hb5.mono HB4.out.size))
  have HL5 := Lib.hid (HL4.out.lift hb5)
  obtain ⟨g, u, rfl, hgl, hcu, hlu⟩ := (HI4.out.below hb5).at (k := 2) (by decide)
  obtain ⟨Au, cu, eu⟩ := hlu.shape
  obtain rfl : u = .slice Au 3 cu := eu
  have HLU : Box (RowsAt w5 w5.heap.size Au [[0, 0, 0], [2, -1, 0], [0, -1, 1]]) := ⟨hlu.rows.2⟩
  have HT5 := Lib.hid ht5'
  clear HP4 HS4 HB4 HUT hb5 HL4 hlu ht5 ht5' HI4
  obtain ⟨W6, hW6⟩ : ∃ W6, W6 = (((w5.alloc (.cells #[.int .i64 0, .int .i64 0, .int .i64 0] 3)).alloc (.cells #[.int .i64 (-2), .int .i64 0, .int .i64 1] 3)).alloc (.cells #[.int .i64 (-1), .int .i64 1, .int .i64 0] 3)).alloc (.cells #[.slice (some ⟨w5.heap.size, 0, Option.none⟩) 3 3, .slice (some ⟨w5.heap.size + 1, 0, Option.none⟩) 3 3, .slice (some ⟨w5.heap.size + 2, 0, Option.none⟩) 3 3] 31) := ⟨_, rfl⟩
  have hb6 : Below w5.heap.size w5 W6 := by rw [hW6]; exact lay3_below w5 [0, 0, 0] [-2, 0, 1] [-1, 1, 0]
  have HR6 := Lib.hid (lay3_rows w5 [0, 0, 0] [-2, 0, 1] [-1, 1, 0] rfl rfl rfl)
  have HS6 : Hid (Calls Tryz.prog 13 #[.slice A1 3 c1, .slice (some ⟨w5.heap.size + 3, 0, Option.none⟩) 3 3] W6 fun e w' => e = .returned (.bool true) ∧ Below W6.heap.size W6 w') := Lib.hid (by
    rw [hW6]
    exact same_any39 A1 _ c1 3 kC [[0, 0, 0], [-2, 0, 1], [-1, 1, 0]] (lay3 w5 [0, 0, 0] [-2, 0, 1] [-1, 1, 0]) (HL5.out.lift (lay3_below _ _ _ _)) HR6.out (by decide))
  go_wp2_with fail
  rw [← hW6]
  clear hW6
  refine HS6.out.mono ?_
  rintro e w7 ⟨rfl, hb7⟩
  have HB7 := Lib.hid (hb6.trans (hb7.mono hb6.size))
  have hcu7 := (HB7.out.cell (p := ⟨g, 2, Option.none⟩) hgl).trans hcu
  obtain ⟨W8, hW8⟩ : ∃ W8, W8 = (((w7.alloc (.cells #[.int .i64 0, .int .i64 0, .int .i64 0] 3)).alloc (.cells #[.int .i64 2, .int .i64 (-1), .int .i64 0] 3)).alloc (.cells #[.int .i64 0, .int .i64 (-1), .int .i64 1] 3)).alloc (.cells #[.slice (some ⟨w7.heap.size, 0, Option.none⟩) 3 3, .slice (some ⟨w7.heap.size + 1, 0, Option.none⟩) 3 3, .slice (some ⟨w7.heap.size + 2, 0, Option.none⟩) 3 3] 31) := ⟨_, rfl⟩
  have hb8 : Below w7.heap.size w7 W8 := by rw [hW8]; exact lay3_below w7 [0, 0, 0] [2, -1, 0] [0, -1, 1]
  have HR8 := Lib.hid (lay3_rows w7 [0, 0, 0] [2, -1, 0] [0, -1, 1] rfl rfl rfl)
  have HS8 : Hid (Calls Tryz.prog 13 #[.slice Au 3 cu, .slice (some ⟨w7.heap.size + 3, 0, Option.none⟩) 3 3] W8 fun e w' => e = .returned (.bool true) ∧ Below W8.heap.size W8 w') := Lib.hid (by
    rw [hW8]
    exact same_any39 Au _ cu 3 [[0, 0, 0], [2, -1, 0], [0, -1, 1]] [[0, 0, 0], [2, -1, 0], [0, -1, 1]] (lay3 w7 [0, 0, 0] [2, -1, 0] [0, -1, 1]) ((HLU.out.lift HB7.out).lift (lay3_below _ _ _ _)) HR8.out (by decide))
  clear hb7 hb6 HS6 HR6 hcu
  go_wp2_with fail
  rw [← hW8]
  clear hW8
  refine HS8.out.mono ?_
  rintro e w9 ⟨rfl, hb9⟩
  have HB9 := Lib.hid (HB7.out.trans ((hb8.trans (hb9.mono hb8.size)).mono HB7.out.size))
  obtain ⟨W10, hW10⟩ : ∃ W10, W10 = w9.alloc (.cells #[.string ⟨#[49, 53]⟩, .string ⟨#[49, 50]⟩, .string ⟨#[49, 48]⟩] 55) := ⟨_, rfl⟩
  have hb10 : Below w9.heap.size w9 W10 := by rw [hW10]; exact (Below.refl _ _).alloc (Nat.le_refl _) _
  have HE : Hid (Calls Tryz.prog 33 #[.slice A5 3 c5, .slice (some ⟨w9.heap.size, 0, Option.none⟩) 3 3] W10 fun e w' => e = .returned (.bool true) ∧ Below W10.heap.size W10 w') := Lib.hid (by
    have hc : Cells W10 w9.heap.size 55 [.string ⟨#[49, 53]⟩, .string ⟨#[49, 50]⟩, .string ⟨#[49, 48]⟩] := by rw [hW10]; exact Cells.new w9 55 #[.string ⟨#[49, 53]⟩, .string ⟨#[49, 50]⟩, .string ⟨#[49, 48]⟩]
    have h1 : Row W10 W10.heap.size 1 A5 3 (strs [[49, 53], [49, 50], [49, 48]]) := by
      have e : strs ([15, 12, 10].map decDigits) = strs [[49, 53], [49, 50], [49, 48]] := by rw [show ([15, 12, 10] : List Nat).map decDigits = [[49, 53], [49, 50], [49, 48]] by decide +kernel]
      have h := HT5.out
      rw [e] at h
      have hbb : Below w5.heap.size w5 W10 := HB9.out.trans (hb10.mono HB9.out.size)
      exact (h.below hbb (Nat.le_refl _)).up hbb.size
    have h2 : Row W10 W10.heap.size 1 (some ⟨w9.heap.size, 0, Option.none⟩) 3 (strs [[49, 53], [49, 50], [49, 48]]) := ⟨rfl, fun k u hu => ⟨_, rfl, hc.lt, by rw [Lib.add_plain, Nat.zero_add, hc.cell]; exact hu⟩⟩
    have h := slEqI_any A5 (some ⟨w9.heap.size, 0, Option.none⟩) c5 3 [[49, 53], [49, 50], [49, 48]] [[49, 53], [49, 50], [49, 48]] W10 h1 h2 (by decide)
    rw [decide_eq_true rfl] at h
    exact h)
  clear hb8 hb9 HS8 HR8 hcu7
  go_wp2_with fail
  rw [← hW10]
  clear hW10
  refine HE.out.mono ?_
  rintro e w11 ⟨rfl, hb11⟩
  have HB11 := Lib.hid (HB5.out.trans ((HB9.out.trans ((hb10.trans (hb11.mono hb10.size)).mono HB9.out.size)).mono HB5.out.size))
  clear hb10 hb11
  go_wp2_with fail
  go_ret
  exact ⟨rfl, HB11.out⟩

end Go.Proofs.YteenfcmnmenigaaGreatDoor
