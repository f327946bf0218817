/- chord.sorted. chord.Check. What the functions of chord compute: plain. chord.rooted. chord.Root, Span, Dual, Dyads of a right chord. chord.Dual of a right chord, where no difference is beyond the limit. chord.closed, of small intervals. chord.Close and Inversions of small chords. -/
import Derived.Test.YteenfcmnmenigaaGreatDoorGCB
import Derived.Test.YteenfcmnmenigaaGreatDoorGCC
import Derived.Test.YteenfcmnmenigaaGreatDoorGCA
import Derived.Test.YteenfcmnmenigaaGreatDoorGTG
import Derived.Deep.RegionHeld3
namespace Go.Proofs.YteenfcmnmenigaaGreatDoor
open Go.RowKit Go.Lib

theorem chk_pos {p x : List Int} (h : chkAll p [x] = 0) : 0 < x.length ∧ x.length ≤ 1000 := by
  have hr := right_of h
  have h1 := hr.len
  have h2 := hr.six
  have hp : primeErr p = 0 := by
    unfold chkAll at h
    split at h
    · rename_i h0; exact absurd h h0
    · rename_i h0; simpa using h0
  obtain ⟨_, h3, _⟩ := right_primes hp
  omega

set_option maxRecDepth 100000 in
set_option maxHeartbeats 4000000 in
theorem chSorted_any (pv : Value) (p : List Int) (A : Option Addr) (c : Nat) (l : List (List Int)) (w : World) (hS : Std w) (hpv : IsRow w w.heap.size pv p) (hpe : primeErr p = 0) (hl : RowsAt w w.heap.size A l) (hc : ∀ x ∈ l, chkAll p [x] = 0) (h0 : 0 < l.length) (hn : l.length ≤ 1000) :
    Calls Tryz.prog 37 #[pv, .slice A l.length c] w fun e w' => (∃ v, e = .returned v ∧ LRow w' w.heap.size v (onceL p l)) ∧ Below w.heap.size w w' := by
  obtain ⟨w1, hw1⟩ : ∃ w1, w1 = w.alloc (.cells #[pv] 23) := ⟨_, rfl⟩
  have hb1 : Below w.heap.size w w1 := by rw [hw1]; exact (Below.refl _ _).alloc (Nat.le_refl _) _
  have hsz : w1.heap.size = w.heap.size + 1 := by rw [hw1, World.size_alloc]
  have hcb : Cells w1 w.heap.size 23 [pv] := by rw [hw1]; exact Cells.new w 23 #[pv]
  have HS1 := Lib.hid (hS.below hb1 (Nat.le_refl _))
  have HP1 := Lib.hid (hpv.lift hb1)
  have HC1 := Lib.hid (clone_rows A c p l w1 (hl.lift hb1) hc h0 hn)
  have HB1 := Lib.hid hb1
  have HCB := Lib.hid hcb
  have HSZ := Lib.hid hsz
  have HPE := Lib.hid hpe
  have HCK : Box (∀ x ∈ l, chkAll p [x] = 0) := ⟨hc⟩
  have HL0 : Box (0 < l.length) := ⟨h0⟩
  obtain ⟨AP, cp, rfl⟩ := hpv.shape
  clear hS hpv hpe hl hc h0 hb1 hcb hsz
  go_enter Tryz.func37, Tryz.ntmps37
  go_wp2_with fail
  rw [← hw1]
  clear hw1
  refine HC1.out.mono ?_
  rintro e w2 ⟨⟨g, c2, vs, rfl, hown, hsr⟩, hb2⟩
  have hgl := (hown.lt g rfl).1
  have HSO := Lib.hid (csCRows _ p (primed HPE.out) g c2 w.heap.size vs l HS1.out hb2 hgl HP1.out (keep_cell (HCB.out.cell 0) hb2) (by have := HSZ.out; omega) HL0.out hn hown hsr)
  clear hown hsr hb2 HC1
  go_wp2_with fail
  refine HSO.out.mono ?_
  rintro e w3 ⟨rfl, ⟨l', vs', hl1, hl2, hl3, hown3, hsr3⟩, hb3⟩
  have HDD := Lib.hid (dedup_once (primed HPE.out) (fun x hx => (right_of (HCK.out x hx)).len) hl2 (by rw [hl1]; exact hl3))
  rw [← hl1] at hown3
  have HCO := Lib.hid (compactC g c2 vs' p l' w1 w3 hb3 hown3 hsr3 (by omega))
  have HL1 := Lib.hid hl1
  clear hl2 hl3 hown3 hsr3 hb3 HSO hl1
  rw [← HL1.out]
  go_wp2_with fail
  refine HCO.out.mono ?_
  rintro e w4 ⟨⟨vs4, rfl, hown4, hsr4⟩, hb4⟩
  have hdn : (onceL p l).length ≤ 1000 := by
    rw [← HDD.out]
    unfold dedup
    rw [List.length_map]
    exact Nat.le_trans (kpI_len _ _) (by have := HL1.out; omega)
  rw [HDD.out] at hown4 hsr4 ⊢
  generalize hds : onceL p l = ds at *
  have HDS := Lib.hid hds
  clear hds
  have HO4 := Lib.hid hown4
  have HSR : Box (SRows w1 p vs4 ds) := ⟨hsr4⟩
  have HB4 := Lib.hid hb4
  have hgl4 : Box (w1.heap.size ≤ g) := ⟨(hown4.lt g rfl).1⟩
  clear hown4 hsr4 hb4 HCO HDD
  go_wp2_with fail
  go_loopw [17] (fun i wr => ∃ (k : Nat) (vs5 : List Value), k ≤ ds.length ∧ i = .int .i64 k ∧ Box (wr.ownsRow w1.heap.size 31 1 (.slice (some ⟨g, 0, Option.none⟩) ds.length c2) ds.length vs5) ∧ Box (∀ (j : Nat) (x : List Int), j < k → ds[j]? = some x → ∃ u, vs5[j]? = some u ∧ ORow wr u x) ∧ Box (∀ j, k ≤ j → vs5[j]? = vs4[j]?) ∧ Below w1.heap.size w1 wr) (fun i _ => ds.length - (intOf i).toNat)
  case atStart => exact ⟨0, vs4, Nat.zero_le _, rfl, ⟨HO4.out⟩, ⟨fun j x h => by omega⟩, ⟨fun _ _ => rfl⟩, HB4.out⟩
  case round =>
    clear HO4 HB4
    obtain ⟨k, vs5, hk, rfl, HO, HD, HV, hbw⟩ := hrel
    by_cases hlt : k < ds.length
    · obtain ⟨v, x, a1, b1, r1, k1⟩ := HSR.out.len hlt
      have hv5 : vs5[k]? = some v := by rw [HV.out k (Nat.le_refl _)]; exact a1
      have hca : wr.cell? ⟨g, k, Option.none⟩ = some v := (HO.out.cellAt k (by omega)).trans hv5
      have hfz := HO.out.frozenAt k
      obtain ⟨hx0, hx1⟩ := chk_pos k1
      have HCL := Lib.hid (clone_own v x wr (r1.lift hbw) hx1 hx0)
      have HB := Lib.hid hbw
      have HBX := Lib.hid b1
      obtain ⟨AX, cx, rfl⟩ := r1.shape
      clear hbw a1 b1 r1 k1 hx0 hx1
      go_wp2_with fail
      refine HCL.out.mono ?_
      rintro e w6 ⟨⟨g6, c6, rfl, hown6⟩, hb6⟩
      have HO6 := Lib.hid (own_below HO.out hb6)
      have HR6 : Box (ORow w6 (.slice (some ⟨g6, 0, Option.none⟩) x.length c6) x) := ⟨ORow.of_own hown6⟩
      have HB6 := Lib.hid (HB.out.trans (hb6.mono HB.out.size))
      have HD6 : Box (∀ (j : Nat) (x : List Int), j < k → ds[j]? = some x → ∃ u, vs5[j]? = some u ∧ ORow w6 u x) := ⟨fun j x hj hx => by
        obtain ⟨u, h1, h2⟩ := HD.out j x hj hx
        exact ⟨u, h1, h2.below hb6⟩⟩
      have hca6 : w6.cell? ⟨g, k, Option.none⟩ = some (.slice AX x.length cx) := (HO6.out.cellAt k (by omega)).trans hv5
      have hfz6 := HO6.out.frozenAt k
      clear hown6 hb6 hca hfz HD HO HB
      go_wp2_with fail
      go_roundw
      case rel =>
        obtain ⟨cs, q1, q2, q3, q4, q5, q6⟩ := own_parts HO6.out
        have hkl : k < vs5.length := by have := HO6.out.1; omega
        refine ⟨k + 1, vs5.set k (.slice (some ⟨g6, 0, Option.none⟩) x.length c6), by omega, by go_num, ⟨own_set HO6.out _⟩, ⟨fun j y hj hy => ?_⟩, ⟨fun j hj => ?_⟩, HB6.out.setCell hgl4.out _⟩
        · by_cases e : j = k
          · subst e
            rw [HBX.out] at hy
            cases hy
            exact ⟨_, List.getElem?_set_self hkl, HR6.out.set q1 (by decide) _⟩
          · obtain ⟨u, h1, h2⟩ := HD6.out j y (by omega) hy
            exact ⟨u, by rw [List.getElem?_set_ne (by omega)]; exact h1, h2.set q1 (by decide) _⟩
        · rw [List.getElem?_set_ne (by omega)]
          exact HV.out j (by omega)
      case measure => simp [intOf]; omega
    · obtain rfl : k = ds.length := by omega
      go_wp2_with fail
      go_ret
      rw [HDS.out]
      exact ⟨⟨_, rfl, LRow.base (b := w1.heap.size) ⟨vs5, HO.out, fun j x hj => HD.out j x (List.getElem?_eq_some_iff.1 hj).1 hj⟩ (by have := HSZ.out; omega)⟩, HB1.out.trans (hbw.mono HB1.out.size)⟩

end Go.Proofs.YteenfcmnmenigaaGreatDoor

namespace Go.Proofs.YteenfcmnmenigaaGreatDoor
open Go.RowKit Go.Lib

theorem rows_pl {w : World} {B : Nat} {A : Option Addr} {l : List (List Int)} {k : Nat} {x : List Int} (h : RowsAt w B A l) (hx : l[k]? = some x) : ∃ b o v, A = some ⟨b, o, Option.none⟩ ∧ b < B ∧ w.cell? ⟨b, o + k, Option.none⟩ = some v ∧ IsRow w B v x := by
  have hk := (List.getElem?_eq_some_iff.1 hx).1
  obtain ⟨ad0, v0, e0, _, h0, _⟩ := h.get 0 l[0] (List.getElem?_eq_getElem (by omega))
  rw [show ad0.add 0 = ad0 by unfold Addr.add; simp] at h0
  obtain ⟨b, o, rfl⟩ := addr_plain h0
  obtain ⟨ad, v, e, h1, h2, h3⟩ := h.get k x hx
  rw [e0] at e
  cases e
  rw [Lib.add_plain] at h2
  exact ⟨b, o, v, e0, h1, h2, h3⟩

theorem cmp_ge (p x y : List Int) : decide (0 ≤ cmpN (num p x * den p y) (num p y * den p x)) = !ltR p x y := by
  unfold cmpN ltR
  split
  · rename_i h; rw [decide_eq_true h]; decide
  · rename_i h
    rw [decide_eq_false h]
    split <;> decide

set_option maxRecDepth 100000 in
set_option maxHeartbeats 2000000 in
theorem chCheck_any (pv : Value) (p : List Int) (A : Option Addr) (c : Nat) (l : List (List Int)) (w : World) (hS : Std w) (hp : IsRow w w.heap.size pv p) (hl : RowsAt w w.heap.size A l) (hn : l.length ≤ 1000000) :
    Calls Tryz.prog 24 #[pv, .slice A l.length c] w fun e w' => e = .returned (.int .i64 (chErr p l)) ∧ Below w.heap.size w w' := by
  have HPC := Lib.hid (primeCheck_any pv p _ w hp)
  have HS := Lib.hid hS
  have HP := Lib.hid hp
  have HL : Box (RowsAt w w.heap.size A l) := ⟨hl⟩
  have hE : ∀ V, chErr p l = V → Hid (chErr p l = V) := fun _ h => Lib.hid h
  have HU : Hid (chErr p l = if primeErr p ≠ 0 then primeErr p else if l.length = 0 then 13 else if 12 < l.length then 4 else chFrom p l l.length) := Lib.hid rfl
  clear hE
  generalize chErr p l = V at *
  obtain ⟨AP, cp, rfl⟩ := hp.shape
  clear hS hp hl
  by_cases hpe : primeErr p = 0
  · rw [if_neg (by rw [hpe]; decide)] at HU
    rw [hpe] at HPC
    by_cases h0 : l.length = 0
    · rw [if_pos h0] at HU
      obtain rfl := HU.out
      have h0' : ((l.length : Int) == 0) = true := by rw [h0]; rfl
      go_enter Tryz.func24, Tryz.ntmps24
      go_wp2_with fail
      refine HPC.out.mono ?_
      rintro e w1 ⟨rfl, hw⟩
      have hb1 : Below w.heap.size w w1 := by rw [← hw]; exact Below.refl _ _
      clear hw
      go_wp2_with fail
      go_ret
      exact ⟨rfl, hb1⟩
    · by_cases h12 : 12 < l.length
      · rw [if_neg h0, if_pos h12] at HU
        obtain rfl := HU.out
        go_enter Tryz.func24, Tryz.ntmps24
        go_wp2_with fail
        refine HPC.out.mono ?_
        rintro e w1 ⟨rfl, hw⟩
        have hb1 : Below w.heap.size w w1 := by rw [← hw]; exact Below.refl _ _
        clear hw
        go_wp2_with fail
        go_ret
        exact ⟨rfl, hb1⟩
      · rw [if_neg h0, if_neg h12] at HU
        have h0' : ((l.length : Int) == 0) = false := by rw [beq_eq_false_iff_ne]; omega
        have h12' : decide (12 < (l.length : Int)) = false := decide_eq_false (by omega)
        go_enter Tryz.func24, Tryz.ntmps24
        go_wp2_with fail
        refine HPC.out.mono ?_
        rintro e w1 ⟨rfl, hw⟩
        have hb1 : Below w.heap.size w w1 := by rw [← hw]; exact Below.refl _ _
        clear hw
        go_wp2_with fail
        go_loopw [26] (fun i wr => ∃ (k : Nat), k ≤ l.length ∧ i = .int .i64 k ∧ Box (chFrom p l k = 0) ∧ Below w.heap.size w wr) (fun i _ => l.length - (intOf i).toNat)
        case atStart => exact ⟨0, Nat.zero_le _, rfl, ⟨rfl⟩, hb1⟩
        case round =>
          clear hb1 HPC
          obtain ⟨k, hk, rfl, HF, hbw⟩ := hrel
          by_cases hlt : k < l.length
          · have hgk : l[k]?.getD [] = l[k] := by rw [List.getElem?_eq_getElem hlt]; rfl
            obtain ⟨b, o, xv, rfl, hab, hca, hrow⟩ := rows_pl HL.out (List.getElem?_eq_getElem hlt)
            have hca' := (hbw.cell (p := ⟨b, o + k, Option.none⟩) hab).trans hca
            have HCK := Lib.hid (check_any _ xv p l[k] wr (HP.out.lift hbw) (hrow.lift hbw))
            have HRW := Lib.hid hrow
            obtain ⟨AX, cx, rfl⟩ := hrow.shape
            have HB := Lib.hid hbw
            clear hbw hca hrow
            by_cases hck : chkAll p [l[k]] = 0
            · rw [hck] at HCK
              have HK0 := Lib.hid hck
              clear hck
              cases k with
              | zero =>
                rw [Nat.add_zero] at hca'
                have HN : Box (chFrom p l 1 = 0) := ⟨chFrom_first (by rw [hgk]; exact HK0.out)⟩
                generalize l[0] = x at *
                go_wp2_with fail
                refine HCK.out.mono ?_
                rintro e w2 ⟨rfl, hb2⟩
                have HB2 := Lib.hid (HB.out.trans (hb2.mono HB.out.size))
                clear hb2
                go_wp2_with fail
                go_roundw
                case rel => exact ⟨1, by omega, by go_num, HN, HB2.out⟩
                case measure => simp [intOf]; omega
              | succ k =>
                have hgk0 : l[k]?.getD [] = l[k] := by rw [List.getElem?_eq_getElem (by omega)]; rfl
                have HLE := fun h => @chFrom_less p l k HF.out (by rw [hgk]; exact HK0.out) h
                have HMO := fun h => @chFrom_more p l k HF.out (by rw [hgk]; exact HK0.out) h
                have hck0 : chkAll p [l[k]] = 0 := by have := chFrom_chk _ HF.out k (by omega); rw [hgk0] at this; exact this
                have HCP := Lib.hid (chk_join hck0 HK0.out)
                rw [hgk, hgk0] at HLE HMO
                have HLE2 := Lib.hid HLE
                have HMO2 := Lib.hid HMO
                obtain ⟨b', o', yv, e', hab0, hca0, hrow0⟩ := rows_pl HL.out (k := k) (List.getElem?_eq_getElem (by omega))
                cases e'
                have HC0 := Lib.hid hca0
                have HR0 := Lib.hid hrow0
                have hw1 : IntKind.i64.wrap (((k + 1 : Nat) : Int) - 1) = (k : Int) := by rw [show ((k + 1 : Nat) : Int) - 1 = (k : Int) by omega]; exact IntWalk.i64_in _ (by omega)
                have hw0 : IntKind.i64.wrap (k : Int) = (k : Int) := IntWalk.i64_in _ (by omega)
                obtain ⟨AY, cy, rfl⟩ := hrow0.shape
                clear hgk hgk0 HLE HMO hck0 hca0 hrow0
                have hST : ∀ n, chFrom p l (k + 2) ≠ 0 → k + 2 ≤ n → chFrom p l n = chFrom p l (k + 2) := fun n h h2 => chFrom_stop h n h2
                have HST := Lib.hid hST
                clear hST
                generalize l[k + 1] = x at *
                generalize l[k] = y at *
                go_wp2_with fail
                refine HCK.out.mono ?_
                rintro e w2 ⟨rfl, hb2⟩
                have HB2 := Lib.hid (HB.out.trans (hb2.mono HB.out.size))
                have p0 := (HB2.out.cell (p := ⟨b, o + k, Option.none⟩) hab).trans HC0.out
                have HCM := Lib.hid (compare_mon _ _ _ p y x w2 (HP.out.lift HB2.out) (HR0.out.lift HB2.out) (HRW.out.lift HB2.out) HCP.out (HS.out.below HB2.out (Nat.le_refl _)))
                have hge := cmp_ge p y x
                clear hb2
                generalize cmpN (num p y * den p x) (num p x * den p y) = z at *
                cases hlr : ltR p y x with
                | true =>
                  have HN : Box (chFrom p l (k + 2) = 0) := ⟨HLE2.out hlr⟩
                  rw [hlr, Bool.not_true] at hge
                  clear hlr
                  go_wp2_with fail
                  refine HCM.out.mono ?_
                  rintro e w3 ⟨rfl, hb3⟩
                  have HB3 := Lib.hid (HB2.out.trans (hb3.mono HB2.out.size))
                  clear hb3
                  go_wp2_with fail
                  go_roundw
                  case rel => exact ⟨k + 2, by omega, by go_num, HN, HB3.out⟩
                  case measure => simp [intOf]; omega
                | false =>
                  have HN : Hid (V = 6) := Lib.hid (by
                    rw [HU.out, HST.out _ (by rw [HMO2.out hlr]; decide) (by omega), HMO2.out hlr])
                  rw [hlr, Bool.not_false] at hge
                  clear hlr
                  go_wp2_with fail
                  refine HCM.out.mono ?_
                  rintro e w3 ⟨rfl, hb3⟩
                  have HB3 := Lib.hid (HB2.out.trans (hb3.mono HB2.out.size))
                  clear hb3
                  go_wp2_with fail
                  go_ret
                  exact ⟨by rw [HN.out]; rfl, HB3.out⟩
            · have HN : Hid (V = chkAll p [l[k]]) := Lib.hid (by
                have h1 := chFrom_bad HF.out (by rw [hgk]; exact hck)
                rw [HU.out, chFrom_stop (k := k + 1) (by rw [h1, hgk]; exact hck) _ (by omega), h1, hgk])
              have hne : (chkAll p [l[k]] != 0) = true := by simpa using hck
              clear hck hgk
              generalize chkAll p [l[k]] = z at *
              generalize l[k] = x at *
              go_wp2_with fail
              refine HCK.out.mono ?_
              rintro e w2 ⟨rfl, hb2⟩
              have HB2 := Lib.hid (HB.out.trans (hb2.mono HB.out.size))
              clear hb2
              go_wp2_with fail
              go_ret
              exact ⟨by rw [HN.out]; rfl, HB2.out⟩
          · obtain rfl : k = l.length := by omega
            have HN : Hid (V = 0) := Lib.hid (by rw [HU.out]; exact HF.out)
            go_wp2_with fail
            go_ret
            exact ⟨by rw [HN.out]; rfl, hbw⟩
  · rw [if_pos hpe] at HU
    obtain rfl := HU.out
    have hne : (primeErr p != 0) = true := by simpa using hpe
    clear hpe HU
    generalize primeErr p = V at *
    go_enter Tryz.func24, Tryz.ntmps24
    go_wp2_with fail
    refine HPC.out.mono ?_
    rintro e w1 ⟨rfl, hw⟩
    have hb1 : Below w.heap.size w w1 := by rw [← hw]; exact Below.refl _ _
    clear hw
    go_wp2_with fail
    go_ret
    exact ⟨rfl, hb1⟩

end Go.Proofs.YteenfcmnmenigaaGreatDoor

namespace Go.Proofs.YteenfcmnmenigaaGreatDoor
open Go.RowKit Go.Lib

def rootL (c : List (List Int)) (r : List Int) : List (List Int) := c.map fun x => difI x r
theorem rootL_len (c : List (List Int)) (r : List Int) : (rootL c r).length = c.length := List.length_map _
theorem rootL_snoc {c : List (List Int)} {r : List Int} {k : Nat} (hk : k < c.length) : rootL (c.take (k + 1)) r = rootL (c.take k) r ++ [difI c[k] r] := by
  unfold rootL
  rw [← List.take_append_getElem hk, List.map_append]
  rfl
/-- The closed chord: the differences within the equave, each once, in order. -/
def clsL (p : List Int) (c : List (List Int)) (r : List Int) : List (List Int) := onceL p ((rootL c r).map (rOf p))
def closeL (p : List Int) (c : List (List Int)) : List (List Int) := clsL p c (c[0]?.getD [])
def invL (p : List Int) (c : List (List Int)) : List (List (List Int)) := (closeL p c).map (clsL p (closeL p c))

/-- slices.Compare of rows, and of lists of rows. -/
def cmpI : List Int → List Int → Int
  | [], [] => 0
  | [], _ :: _ => -1
  | _ :: _, [] => 1
  | a :: x, b :: y => if a < b then -1 else if b < a then 1 else cmpI x y
def cmpL : List (List Int) → List (List Int) → Int
  | [], [] => 0
  | [], _ :: _ => -1
  | _ :: _, [] => 1
  | a :: x, b :: y => if cmpI a b ≠ 0 then cmpI a b else cmpL x y
/-- slices.MinFunc: the first of the least. -/
def minTo (l : List (List (List Int))) : Nat → List (List Int)
  | 0 => l[0]?.getD []
  | k + 1 => if cmpL (l[k + 1]?.getD []) (minTo l k) < 0 then l[k + 1]?.getD [] else minTo l k
def minL (l : List (List (List Int))) : List (List Int) := minTo l (l.length - 1)

/-- The exponents that numbers takes: less the least one, or from the greatest one. -/
def extTo (inv : Bool) (c : List (List Int)) (k : Nat) (s : Int) : Nat → Int
  | 0 => s
  | j + 1 => if inv then max (extTo inv c k s j) ((c[j]?.getD [])[k]?.getD 0) else min (extTo inv c k s j) ((c[j]?.getD [])[k]?.getD 0)
def extX (inv : Bool) (c : List (List Int)) (x : List Int) (k : Nat) : Int := extTo inv c k (x[k]?.getD 0) c.length
def numPT (p : List Int) (inv : Bool) (c : List (List Int)) (x : List Int) : Nat → Nat
  | 0 => 1
  | k + 1 => numPT p inv c x k * (p[k]?.getD 0).toNat ^ (x[k]?.getD 0 - extX inv c x k).natAbs
def numbersL (p : List Int) (inv : Bool) (c : List (List Int)) : List Nat := c.map fun x => numPT p inv c x p.length

/-- Small chords: what the contracts of Close, Inversions and the numbers ask. -/
structure SmC (p : List Int) (c : List (List Int)) : Prop where
  ok : ChOk p c
  le4 : p.length ≤ 4
  tab : ∃ a A, TabOk p a A
  sm : ∀ x ∈ c, ∀ y ∈ c, SmR p (difI x y)

theorem SmR.chk {p x : List Int} (hp : primeErr p = 0) (h : SmR p x) : chkAll p [x] = 0 := smR_chk hp h

end Go.Proofs.YteenfcmnmenigaaGreatDoor

namespace Go.Proofs.YteenfcmnmenigaaGreatDoor
open Go.RowKit Go.Lib

/-- The differences to one of them, or ErrLimit. -/
def RootPost (p : List Int) (l : List (List Int)) (r : List Int) (base : Nat) (e : Ending) (w' : World) : Prop :=
  ((∀ x ∈ l, chkAll p [difI x r] = 0) ∧ ∃ v, e = .returned (.tuple #[v, .int .i64 0]) ∧ LRow w' base v (rootL l r)) ∨
  ((∃ x ∈ l, chkAll p [difI x r] ≠ 0) ∧ e = .returned (.tuple #[.slice Option.none 0 0, .int .i64 4]))

set_option maxRecDepth 100000 in
set_option maxHeartbeats 4000000 in
theorem rooted_any (pv rv : Value) (p r : List Int) (A : Option Addr) (c : Nat) (l : List (List Int)) (w : World) (hS : Std w) (hpv : IsRow w w.heap.size pv p) (hrv : IsRow w w.heap.size rv r) (hl : RowsAt w w.heap.size A l) (hc : ∀ x ∈ l, chkAll p [x] = 0) (hcr : chkAll p [r] = 0) (hn : l.length ≤ 1000) :
    Calls Tryz.prog 47 #[pv, .slice A l.length c, rv] w fun e w' => RootPost p l r w.heap.size e w' ∧ Below w.heap.size w w' := by
  obtain ⟨i0, hi0, hz0, hz1, hz2⟩ := info_parts Tryz.info_row
  have HS := Lib.hid hS
  have HP := Lib.hid hpv
  have HR := Lib.hid hrv
  obtain ⟨AP, cp, rfl⟩ := hpv.shape
  obtain ⟨AR, cr, rfl⟩ := hrv.shape
  have HL : Box (RowsAt w w.heap.size A l) := ⟨hl⟩
  have HC : Box (∀ x ∈ l, chkAll p [x] = 0) := ⟨hc⟩
  have HCR := Lib.hid hcr
  clear hS hpv hrv hl hc hcr
  go_enter Tryz.func47, Tryz.ntmps47
  go_wp2_with fail
  go_loopw [8, 15] (fun o i wr => ∃ (k : Nat), k ≤ l.length ∧ i = .int .i64 k ∧ Box (∀ j, j < k → ∀ x, l[j]? = some x → chkAll p [difI x r] = 0) ∧ LRow wr w.heap.size o (rootL (l.take k) r) ∧ Below w.heap.size w wr) (fun _ i _ => l.length - (intOf i).toNat)
  case atStart => exact ⟨0, Nat.zero_le _, rfl, ⟨fun j hj => by omega⟩, LRow.nil _ _, Below.refl _ _⟩
  case round =>
    obtain ⟨k, hk, rfl, HD, hlr, hbw⟩ := hrel
    by_cases hlt : k < l.length
    · obtain ⟨ad, xv, rfl, hab, hca, hrow⟩ := HL.out.get k l[k] (List.getElem?_eq_getElem hlt)
      have hca' := (hbw.cell (p := ad.add k) (by rw [add_block]; exact hab)).trans hca
      have HCX := Lib.hid (HC.out _ (List.getElem_mem hlt))
      have HMX := Lib.hid (List.getElem_mem hlt)
      have HGX := Lib.hid (List.getElem?_eq_getElem hlt)
      have HNX := Lib.hid (rootL_snoc (r := r) hlt)
      have HLN : Hid ((rootL (l.take k) r).length = k) := Lib.hid (by rw [rootL_len, List.length_take]; omega)
      generalize l[k]'hlt = x at *
      have HSU := Lib.hid (sub_okO _ xv _ p x r wr (HP.out.lift hbw) (hrow.lift hbw) (HR.out.lift hbw) (chk_both HCX.out HCR.out))
      obtain ⟨AX, cx, rfl⟩ := hrow.shape
      have HLR := Lib.hid hlr
      have HB := Lib.hid hbw
      clear hlr hbw hca hrow
      go_wp2_with fail
      refine HSU.out.mono ?_
      rintro e w1 ⟨hpo, hb1⟩
      have HB1 := Lib.hid (HB.out.trans (hb1.mono HB.out.size))
      have HLR1 := Lib.hid (HLR.out.below hb1)
      clear hb1 HLR HB HSU
      rcases hpo with ⟨hck, v, rfl, hor⟩ | ⟨hck, rfl⟩
      · have HDN : Box (∀ j, j < k + 1 → ∀ x, l[j]? = some x → chkAll p [difI x r] = 0) := ⟨fun j hj y hy => by
          by_cases e : j = k
          · subst e; rw [HGX.out] at hy; cases hy; exact hck
          · exact HD.out j (by omega) y hy⟩
        have HOR := Lib.hid hor
        obtain ⟨AD, cd, rfl⟩ := hor.shape
        obtain ⟨vs, hown, hvs⟩ := HLR1.out
        rw [HLN.out] at hown
        have HO := Lib.hid hown
        have HVS := Lib.hid hvs
        have hwk : w.heap.size ≤ w1.heap.size := HB1.out.size
        clear hck hor hown hvs HD
        go_wp2_with (at_builtin; refine wpList_append_own _ rfl _ _ _ rfl w.heap.size 31 i0 (.slice Option.none 0 0) 1 24 Tryz.underlying24 hi0 hz0 hz1 hz2 rfl (by decide) _ _ _ rfl (HO.out.alloc _) ⟨w1.heap.size, 0, Option.none⟩ 1 1 [_] rfl rfl (cell_one_new _ _ _) (by intro u hu; simp at hu; subst hu; rfl) (by unfold maxLen; omega) (by omega) (by simp; omega) ?_; intro v9 w9 hown9 hg9 _)
        go_roundw
        case rel =>
          refine ⟨k + 1, by omega, by go_num, HDN, ?_, (HB1.out.alloc hwk _).grown hg9 (by simp; omega) (fun k hk => (HO.out.lt k hk).1)⟩
          rw [HNX.out]
          have hO := HO.out
          rw [← HLN.out] at hO hown9
          exact LRow.snoc (hO.alloc _) (fun j y hj => by obtain ⟨u, h1, h2⟩ := HVS.out j y hj; exact ⟨u, h1, h2.alloc _⟩) (HOR.out.alloc _) hown9 hg9
        case measure => simp [intOf]; omega
      · have HX : Box (∃ x ∈ l, chkAll p [difI x r] ≠ 0) := ⟨⟨x, HMX.out, hck⟩⟩
        clear hck HD
        go_wp2_with fail
        go_ret2
        exact ⟨.inr ⟨HX.out, rfl⟩, HB1.out⟩
    · obtain rfl : k = l.length := by omega
      have HLR := Lib.hid hlr
      obtain ⟨A1, c1, rfl⟩ := hlr.shape
      rw [List.take_length] at HLR
      rw [List.take_length, rootL_len] at *
      go_wp2_with fail
      go_ret2
      refine ⟨.inl ⟨fun x hx => ?_, _, rfl, HLR.out⟩, hbw⟩
      obtain ⟨j, hj, rfl⟩ := List.getElem_of_mem hx
      exact HD.out j hj _ (List.getElem?_eq_getElem hj)

end Go.Proofs.YteenfcmnmenigaaGreatDoor

namespace Go.Proofs.YteenfcmnmenigaaGreatDoor
open Go.RowKit Go.Lib

set_option maxRecDepth 100000 in
set_option maxHeartbeats 2000000 in
theorem chRoot_ok (pv : Value) (p : List Int) (A : Option Addr) (c : Nat) (l : List (List Int)) (w : World) (hS : Std w) (hp : IsRow w w.heap.size pv p) (hl : RowsAt w w.heap.size A l) (hk : ChOk p l) :
    Calls Tryz.prog 15 #[pv, .slice A l.length c] w fun e w' => RootPost p l (l[0]?.getD []) w.heap.size e w' ∧ Below w.heap.size w w' := by
  have h0 := hk.pos
  have h12 := hk.le
  have HC := Lib.hid (chCheck_any pv p A c l w hS hp hl (by omega))
  rw [hk.err] at HC
  obtain ⟨b, o, rv, rfl, hab, hca, hrow⟩ := rows_pl hl (List.getElem?_eq_getElem h0)
  rw [Nat.add_zero] at hca
  have hg0 : l[0]?.getD [] = l[0] := by rw [List.getElem?_eq_getElem h0]; rfl
  have hcr : chkAll p [l[0]] = 0 := hk.chk _ (List.getElem_mem h0)
  rw [hg0]
  have HRT := Lib.hid (fun (W : World) (hb : Below w.heap.size w W) => rooted_any pv rv p l[0] (some ⟨b, o, Option.none⟩) c l W (hS.below hb (Nat.le_refl _)) (hp.lift hb) (hrow.lift hb) (hl.lift hb) hk.chk hcr (by omega))
  obtain ⟨AP, cp, rfl⟩ := hp.shape
  obtain ⟨AR, cr, rfl⟩ := hrow.shape
  clear hS hp hl hk hrow hcr hg0
  generalize l[0] = r at *
  go_enter Tryz.func15, Tryz.ntmps15
  go_wp2_with fail
  refine HC.out.mono ?_
  rintro e w1 ⟨rfl, hb1⟩
  have hca1 := (hb1.cell (p := ⟨b, o, Option.none⟩) hab).trans hca
  have HR1 := Lib.hid (HRT.out w1 hb1)
  have HB1 := Lib.hid hb1
  clear hb1 HRT
  go_wp2_with fail
  refine HR1.out.mono ?_
  rintro e w2 ⟨hpo, hb2⟩
  have HB2 := Lib.hid (HB1.out.trans (hb2.mono HB1.out.size))
  clear hb2
  rcases hpo with ⟨hx, v, rfl, hlr⟩ | ⟨hx, rfl⟩
  · have HX : Box (∀ x ∈ l, chkAll p [difI x r] = 0) := ⟨hx⟩
    have HLR := Lib.hid (hlr.base HB1.out.size)
    obtain ⟨A2, c2, rfl⟩ := hlr.shape
    clear hx hlr
    go_wp2_with fail
    go_ret2
    exact ⟨.inl ⟨HX.out, _, rfl, HLR.out⟩, HB2.out⟩
  · have HX : Box (∃ x ∈ l, chkAll p [difI x r] ≠ 0) := ⟨hx⟩
    clear hx
    go_wp2_with fail
    go_ret2
    exact ⟨.inr ⟨HX.out, rfl⟩, HB2.out⟩

set_option maxRecDepth 100000 in
set_option maxHeartbeats 2000000 in
theorem chSpan_ok (pv : Value) (p : List Int) (A : Option Addr) (c : Nat) (l : List (List Int)) (w : World) (hS : Std w) (hp : IsRow w w.heap.size pv p) (hl : RowsAt w w.heap.size A l) (hk : ChOk p l) :
    Calls Tryz.prog 17 #[pv, .slice A l.length c] w fun e w' => DifPost p (l[l.length - 1]?.getD []) (l[0]?.getD []) e w' ∧ Below w.heap.size w w' := by
  have h0 := hk.pos
  have h12 := hk.le
  have HC := Lib.hid (chCheck_any pv p A c l w hS hp hl (by omega))
  rw [hk.err] at HC
  obtain ⟨b, o, rv, rfl, hab, hca, hrow⟩ := rows_pl hl (List.getElem?_eq_getElem h0)
  rw [Nat.add_zero] at hca
  obtain ⟨b', o', sv, e', hab', hcb, hros⟩ := rows_pl hl (List.getElem?_eq_getElem (show l.length - 1 < l.length by omega))
  cases e'
  have hg0 : l[0]?.getD [] = l[0] := by rw [List.getElem?_eq_getElem h0]; rfl
  have hg1 : l[l.length - 1]?.getD [] = l[l.length - 1] := by rw [List.getElem?_eq_getElem (by omega)]; rfl
  have hcr : chkAll p [l[0]] = 0 := hk.chk _ (List.getElem_mem h0)
  have hcs : chkAll p [l[l.length - 1]] = 0 := hk.chk _ (List.getElem_mem _)
  rw [hg0, hg1]
  have HRT := Lib.hid (fun (W : World) (hb : Below w.heap.size w W) => sub_okO pv sv rv p l[l.length - 1] l[0] W (hp.lift hb) (hros.lift hb) (hrow.lift hb) (chk_both hcs hcr))
  obtain ⟨AP, cp, rfl⟩ := hp.shape
  obtain ⟨AR, cr, rfl⟩ := hrow.shape
  obtain ⟨AS, ct, rfl⟩ := hros.shape
  have hw1 : IntKind.i64.wrap ((l.length : Int) - 1) = ((l.length - 1 : Nat) : Int) := by rw [show (l.length : Int) - 1 = ((l.length - 1 : Nat) : Int) by omega]; exact IntWalk.i64_in _ (by omega)
  have hlt : l.length - 1 < l.length := by omega
  have hw0 : IntKind.i64.wrap ((l.length - 1 : Nat) : Int) = ((l.length - 1 : Nat) : Int) := IntWalk.i64_in _ (by omega)
  have hi0 : (0 : Int) ≤ ((l.length - 1 : Nat) : Int) := by omega
  have hi1 : ((l.length - 1 : Nat) : Int) < (l.length : Int) := by omega
  clear hS hp hl hk hrow hcr hg0 hg1 hcs hros
  generalize l[0] = r at *
  generalize l[l.length - 1] = s at *
  generalize l.length - 1 = m at *
  go_enter Tryz.func17, Tryz.ntmps17
  go_wp2_with fail
  refine HC.out.mono ?_
  rintro e w1 ⟨rfl, hb1⟩
  have hca1 := (hb1.cell (p := ⟨b, o, Option.none⟩) hab).trans hca
  have hcb1 := (hb1.cell (p := ⟨b, o + m, Option.none⟩) hab).trans hcb
  have HB1 := Lib.hid hb1
  clear hb1
  have hB : Below w1.heap.size w1 w1.drew := below_drew (Below.refl _ _)
  go_wp2_with fail
  go_region_held3 (fun w' => w'.cell? ⟨b, o + m, Option.none⟩ = some (.slice AS s.length ct) ∧ w'.cell? ⟨b, o, Option.none⟩ = some (.slice AR r.length cr))
    (first | exact ⟨keep_cell hcb1 hB, keep_cell hca1 hB⟩ | go_keep)
    ((first | (go_at_call 48; (with_reducible refine (HRT.out _ (HB1.out.trans (hB.mono HB1.out.size))).mono ?_); rintro e w7 ⟨hpo, hbk⟩; replace hB := hB.trans (hbk.mono hB.size); clear hbk; obtain ⟨A9, n9, c9, z9, rfl⟩ := hpo.shape; have HPO := Lib.hid hpo; clear hpo)))
  all_goals
    have HB2 := Lib.hid (HB1.out.trans (hB.mono HB1.out.size))
    go_wp2_with fail
    go_ret2
    exact ⟨HPO.out, HB2.out⟩

end Go.Proofs.YteenfcmnmenigaaGreatDoor

namespace Go.Proofs.YteenfcmnmenigaaGreatDoor
open Go.RowKit Go.Lib

def dualTo (l : List (List Int)) (s : List Int) (k : Nat) : List (List Int) := (l.reverse.take k).map fun x => difI s x
def dualL (l : List (List Int)) : List (List Int) := dualTo l (l[l.length - 1]?.getD []) l.length
theorem dualTo_len {l : List (List Int)} {s : List Int} {k : Nat} (h : k ≤ l.length) : (dualTo l s k).length = k := by
  unfold dualTo
  rw [List.length_map, List.length_take, List.length_reverse]
  omega
theorem dualTo_next {l : List (List Int)} {s : List Int} {k : Nat} (h : k < l.length) : dualTo l s (k + 1) = dualTo l s k ++ [difI s l[l.length - 1 - k]] := by
  unfold dualTo
  rw [← List.take_append_getElem (by rw [List.length_reverse]; exact h), List.map_append, List.getElem_reverse]
  rfl

set_option maxRecDepth 100000 in
set_option maxHeartbeats 4000000 in
theorem chDual_ok (pv : Value) (p : List Int) (A : Option Addr) (c : Nat) (l : List (List Int)) (w : World) (hS : Std w) (hp : IsRow w w.heap.size pv p) (hl : RowsAt w w.heap.size A l) (hk : ChOk p l) (hd : ∀ x ∈ l, chkAll p [difI (l[l.length - 1]?.getD []) x] = 0) :
    Calls Tryz.prog 25 #[pv, .slice A l.length c] w fun e w' => (∃ v, e = .returned (.tuple #[v, .int .i64 0]) ∧ LRow w' w.heap.size v (dualL l)) ∧ Below w.heap.size w w' := by
  obtain ⟨i0, hi0, hz0, hz1, hz2⟩ := info_parts Tryz.info_row
  have h0 := hk.pos
  have h12 := hk.le
  have HC := Lib.hid (chCheck_any pv p A c l w hS hp hl (by omega))
  rw [hk.err] at HC
  obtain ⟨b, o, sv, rfl, hab, hcb, hros⟩ := rows_pl hl (List.getElem?_eq_getElem (show l.length - 1 < l.length by omega))
  have hg1 : l[l.length - 1]?.getD [] = l[l.length - 1] := by rw [List.getElem?_eq_getElem (by omega)]; rfl
  have hcs : chkAll p [l[l.length - 1]] = 0 := hk.chk _ (List.getElem_mem _)
  have HDL : Hid (dualTo l (l[l.length - 1]?.getD []) l.length = dualL l) := Lib.hid rfl
  rw [hg1] at hd HDL
  have HP := Lib.hid hp
  have HL : Box (RowsAt w w.heap.size (some ⟨b, o, Option.none⟩) l) := ⟨hl⟩
  have HK : Box (∀ x ∈ l, chkAll p [x] = 0) := ⟨hk.chk⟩
  have HRS := Lib.hid hros
  have HCS := Lib.hid hcs
  have HDD : Box (∀ x ∈ l, chkAll p [difI l[l.length - 1] x] = 0) := ⟨hd⟩
  obtain ⟨AP, cp, rfl⟩ := hp.shape
  obtain ⟨AS, ct, rfl⟩ := hros.shape
  have hw1 : IntKind.i64.wrap ((l.length : Int) - 1) = ((l.length - 1 : Nat) : Int) := by rw [show (l.length : Int) - 1 = ((l.length - 1 : Nat) : Int) by omega]; exact IntWalk.i64_in _ (by omega)
  have hlt : l.length - 1 < l.length := by omega
  have HIX : ∀ k, k < l.length → ∃ j, j < l.length ∧ j + k = l.length - 1 ∧ l[l.length - 1 - k]? = l[j]? ∧ IntKind.i64.wrap (((l.length - 1 : Nat) : Int) - (k : Int)) = (j : Int) := fun k hk => ⟨l.length - 1 - k, by omega, by omega, rfl, by rw [show ((l.length - 1 : Nat) : Int) - (k : Int) = ((l.length - 1 - k : Nat) : Int) by omega]; exact IntWalk.i64_in _ (by omega)⟩
  have HIXX : Box (∀ k, k < l.length → ∃ j, j < l.length ∧ j + k = l.length - 1 ∧ l[l.length - 1 - k]? = l[j]? ∧ IntKind.i64.wrap (((l.length - 1 : Nat) : Int) - (k : Int)) = (j : Int)) := ⟨HIX⟩
  have HNE : Box (∀ (s : List Int) k, k < l.length → ∀ x, l[l.length - 1 - k]? = some x → dualTo l s (k + 1) = dualTo l s k ++ [difI s x]) := ⟨fun s k hk x hx => by
    rw [dualTo_next hk]
    obtain ⟨_, h2⟩ := List.getElem?_eq_some_iff.1 hx
    rw [h2]⟩
  clear hS hp hl hk hg1 hcs hros hd HIX
  generalize l[l.length - 1] = s at *
  generalize l.length - 1 = m at *
  go_enter Tryz.func25, Tryz.ntmps25
  go_wp2_with fail
  refine HC.out.mono ?_
  rintro e w1 ⟨rfl, hb1⟩
  have hcb1 := (hb1.cell (p := ⟨b, o + m, Option.none⟩) hab).trans hcb
  go_wp2_with fail
  go_loopw [7, 26] (fun o i wr => ∃ (k : Nat), k ≤ l.length ∧ i = .int .i64 k ∧ LRow wr w.heap.size o (dualTo l s k) ∧ Below w.heap.size w wr) (fun _ i _ => l.length - (intOf i).toNat)
  case atStart => exact ⟨0, Nat.zero_le _, rfl, LRow.nil _ _, hb1⟩
  case round =>
    clear hb1 hcb1 HC
    obtain ⟨k, hk, rfl, hlr, hbw⟩ := hrel
    by_cases hlt2 : k < l.length
    · obtain ⟨j, hj, hjk, hgj, hwj⟩ := HIXX.out k hlt2
      obtain ⟨b', o', xv, e', hab2, hca, hrow⟩ := rows_pl HL.out (List.getElem?_eq_getElem hj)
      cases e'
      have hca' := (hbw.cell (p := ⟨b, o + j, Option.none⟩) hab2).trans hca
      rw [List.getElem?_eq_getElem hj] at hgj
      have HNX := Lib.hid (HNE.out s k hlt2 _ hgj)
      have HCX := Lib.hid (HK.out _ (List.getElem_mem hj))
      have HDX := Lib.hid (HDD.out _ (List.getElem_mem hj))
      have HLN : Hid ((dualTo l s k).length = k) := Lib.hid (dualTo_len hk)
      clear hgj hca
      generalize l[j]'hj = x at *
      have HSU := Lib.hid (sub_okO _ _ xv p s x wr (HP.out.lift hbw) (HRS.out.lift hbw) (hrow.lift hbw) (chk_both HCS.out HCX.out))
      obtain ⟨AX, cx, rfl⟩ := hrow.shape
      have HLR := Lib.hid hlr
      have HB := Lib.hid hbw
      clear hlr hbw hrow
      go_wp2_with fail
      refine HSU.out.mono ?_
      rintro e w2 ⟨hpo, hb2⟩
      have HB1 := Lib.hid (HB.out.trans (hb2.mono HB.out.size))
      have HLR1 := Lib.hid (HLR.out.below hb2)
      clear hb2 HLR HB HSU
      rcases hpo with ⟨_, v, rfl, hor⟩ | ⟨hck, _⟩
      case inr => exact absurd HDX.out hck
      have HOR := Lib.hid hor
      obtain ⟨AD, cd, rfl⟩ := hor.shape
      obtain ⟨vs, hown, hvs⟩ := HLR1.out
      rw [HLN.out] at hown
      have HO := Lib.hid hown
      have HVS := Lib.hid hvs
      have hwk : w.heap.size ≤ w2.heap.size := HB1.out.size
      clear hor hown hvs
      go_wp2_with (at_builtin; refine wpList_append_own _ rfl _ _ _ rfl w.heap.size 31 i0 (.slice Option.none 0 0) 1 24 Tryz.underlying24 hi0 hz0 hz1 hz2 rfl (by decide) _ _ _ rfl (HO.out.alloc _) ⟨w2.heap.size, 0, Option.none⟩ 1 1 [_] rfl rfl (cell_one_new _ _ _) (by intro u hu; simp at hu; subst hu; rfl) (by unfold maxLen; omega) (by omega) (by simp; omega) ?_; intro v9 w9 hown9 hg9 _)
      go_roundw
      case rel =>
        refine ⟨k + 1, by omega, by go_num, ?_, (HB1.out.alloc hwk _).grown hg9 (by simp; omega) (fun k hk => (HO.out.lt k hk).1)⟩
        rw [HNX.out]
        have hO := HO.out
        rw [← HLN.out] at hO hown9
        exact LRow.snoc (hO.alloc _) (fun j y hj => by obtain ⟨u, h1, h2⟩ := HVS.out j y hj; exact ⟨u, h1, h2.alloc _⟩) (HOR.out.alloc _) hown9 hg9
      case measure => simp [intOf]; omega
    · obtain rfl : k = l.length := by omega
      rw [HDL.out] at hlr
      have HLR := Lib.hid hlr
      obtain ⟨A1, c1, rfl⟩ := hlr.shape
      clear hlr
      go_wp2_with fail
      go_ret2
      exact ⟨⟨_, rfl, HLR.out⟩, hbw⟩

end Go.Proofs.YteenfcmnmenigaaGreatDoor

namespace Go.Proofs.YteenfcmnmenigaaGreatDoor
open Go.RowKit Go.Lib

theorem rOf_chk {p x : List Int} {a : Nat} {A : List Nat} (hT : TabOk p a A) (h : SmR p x) : chkAll p [rOf p x] = 0 := smR_chk hT.pe (smR_r hT h)
theorem onceL_pos {p : List Int} (hP : Primed p) {l : List (List Int)} (hl : ∀ x ∈ l, x.length = p.length) (h : 0 < l.length) : 0 < (onceL p l).length := by
  have h2 := (onceL_slt hP hl).2 l[0]
  exact List.length_pos_of_mem (h2.2 (List.getElem_mem h))

set_option maxRecDepth 100000 in
set_option maxHeartbeats 4000000 in
theorem closed_ok (pv rv : Value) (p r : List Int) (A : Option Addr) (c : Nat) (l : List (List Int)) (w : World) (a : Nat) (T : List Nat) (hT : TabOk p a T) (hsm : ∀ x ∈ l, SmR p (difI x r)) (h0 : 0 < l.length) (hS : Std w) (hpv : IsRow w w.heap.size pv p) (hrv : IsRow w w.heap.size rv r) (hl : RowsAt w w.heap.size A l) (hc : ∀ x ∈ l, chkAll p [x] = 0) (hcr : chkAll p [r] = 0) (hn : l.length ≤ 1000) :
    Calls Tryz.prog 59 #[pv, .slice A l.length c, rv] w fun e w' => (∃ v, e = .returned (.tuple #[v, .int .i64 0]) ∧ LRow w' w.heap.size v (clsL p l r)) ∧ Below w.heap.size w w' := by
  have HRT := Lib.hid (rooted_any pv rv p r A c l w hS hpv hrv hl hc hcr hn)
  have HS := Lib.hid hS
  have HP := Lib.hid hpv
  have HT : Box (TabOk p a T) := ⟨hT⟩
  have HSM : Box (∀ x ∈ rootL l r, SmR p x) := ⟨fun x hx => by
    obtain ⟨y, hy, rfl⟩ := List.mem_map.1 hx
    exact hsm y hy⟩
  have HNO : Hid (¬ ∃ x ∈ l, chkAll p [difI x r] ≠ 0) := Lib.hid fun ⟨x, hx, h⟩ => h (smR_chk hT.pe (hsm x hx))
  have HLN : Hid ((rootL l r).length = l.length) := Lib.hid (rootL_len l r)
  have HCL : Hid (clsL p l r = onceL p ((rootL l r).map (rOf p))) := Lib.hid rfl
  obtain ⟨AP, cp, rfl⟩ := hpv.shape
  obtain ⟨AR, cr, rfl⟩ := hrv.shape
  have H0 := Lib.hid h0
  clear hT hsm hS hpv hrv hl hc hcr h0
  generalize clsL p l r = K at *
  go_enter Tryz.func59, Tryz.ntmps59
  go_wp2_with fail
  refine HRT.out.mono ?_
  rintro e w1 ⟨hpo, hb1⟩
  rcases hpo with ⟨_, v, rfl, hlr⟩ | ⟨hx, _⟩
  case inr => exact absurd hx HNO.out
  have HB1 := Lib.hid hb1
  clear HRT HNO
  generalize rootL l r = ds at *
  have hdn : ds.length ≤ 1000 := by rw [HLN.out]; exact hn
  have hd0 : 0 < ds.length := by rw [HLN.out]; exact H0.out
  obtain ⟨vs, hown, hvs⟩ := hlr
  obtain ⟨g, c2, rfl⟩ : ∃ g c, v = .slice (some ⟨g, 0, Option.none⟩) ds.length c := by
    rcases hown.2 with ⟨_, h⟩ | ⟨g, cap, cur, hv, _⟩
    · omega
    · exact ⟨g, cap, hv⟩
  have HO := Lib.hid hown
  have HVS : Box (∀ (j : Nat) (x : List Int), ds[j]? = some x → ∃ u, vs[j]? = some u ∧ ORow w1 u x) := ⟨hvs⟩
  have hgl : Box (w.heap.size ≤ g) := ⟨(hown.lt g rfl).1⟩
  clear hown hvs hb1 HLN hn H0
  have HD0 := Lib.hid hd0
  clear hd0
  go_wp2_with fail
  go_loopw [24] (fun i wr => ∃ (k : Nat) (vs5 : List Value), k ≤ ds.length ∧ i = .int .i64 k ∧ Box (wr.ownsRow w.heap.size 31 1 (.slice (some ⟨g, 0, Option.none⟩) ds.length c2) ds.length vs5) ∧ Box (∀ (j : Nat) (x : List Int), j < k → ds[j]? = some x → ∃ u, vs5[j]? = some u ∧ ORow wr u (rOf p x)) ∧ Box (∀ (j : Nat) (x : List Int), k ≤ j → ds[j]? = some x → ∃ u, vs5[j]? = some u ∧ ORow wr u x) ∧ Below w.heap.size w wr) (fun i _ => ds.length - (intOf i).toNat)
  case atStart => exact ⟨0, vs, Nat.zero_le _, rfl, ⟨HO.out⟩, ⟨fun j x h => by omega⟩, ⟨fun j x _ h => HVS.out j x h⟩, HB1.out⟩
  case round =>
    clear HO HVS HB1
    obtain ⟨k, vs5, hk, rfl, HO, HD, HV, hbw⟩ := hrel
    by_cases hlt : k < ds.length
    · have HGX := Lib.hid (List.getElem?_eq_getElem hlt)
      have HSX := Lib.hid (HSM.out _ (List.getElem_mem hlt))
      generalize ds[k]'hlt = x at *
      obtain ⟨v, hv5, r1⟩ := HV.out k x (Nat.le_refl _) HGX.out
      have hca : wr.cell? ⟨g, k, Option.none⟩ = some v := (HO.out.cellAt k (by omega)).trans hv5
      have HCL := Lib.hid (ivReduce _ v p x _ _ wr (HS.out.below hbw (Nat.le_refl _)) (HP.out.lift hbw) r1.row (redOk_sm HT.out HSX.out))
      have HRX : Hid (addE x (-(qOf p x)) = rOf p x) := Lib.hid rfl
      rw [HRX.out] at HCL
      generalize qOf p x = q at *
      have HB := Lib.hid hbw
      obtain ⟨AX, cx, rfl⟩ := r1.shape
      clear hbw r1 HRX
      go_wp2_with fail
      refine HCL.out.mono ?_
      rintro e w6 ⟨⟨u6, rfl, hor⟩, hb6⟩
      have HO6 := Lib.hid (own_below HO.out hb6)
      have HR6 : Box (ORow w6 u6 (rOf p x)) := ⟨hor⟩
      have HB6 := Lib.hid (HB.out.trans (hb6.mono HB.out.size))
      have HD6 : Box (∀ (j : Nat) (x : List Int), j < k → ds[j]? = some x → ∃ u, vs5[j]? = some u ∧ ORow w6 u (rOf p x)) := ⟨fun j x hj hx => by
        obtain ⟨u, h1, h2⟩ := HD.out j x hj hx
        exact ⟨u, h1, h2.below hb6⟩⟩
      have HV6 : Box (∀ (j : Nat) (x : List Int), k ≤ j → ds[j]? = some x → ∃ u, vs5[j]? = some u ∧ ORow w6 u x) := ⟨fun j x hj hx => by
        obtain ⟨u, h1, h2⟩ := HV.out j x hj hx
        exact ⟨u, h1, h2.below hb6⟩⟩
      have hca6 : w6.cell? ⟨g, k, Option.none⟩ = some (.slice AX x.length cx) := (HO6.out.cellAt k (by omega)).trans hv5
      have hfz6 := HO6.out.frozenAt k
      obtain ⟨A6, c6, rfl⟩ := hor.shape
      clear hor hb6 hca HD HO HV HB
      go_wp2_with fail
      go_roundw
      case rel =>
        obtain ⟨cs, q1, q2, q3, q4, q5, q6⟩ := own_parts HO6.out
        have hkl : k < vs5.length := by have := HO6.out.1; omega
        refine ⟨k + 1, vs5.set k _, by omega, by go_num, ⟨own_set HO6.out _⟩, ⟨fun j y hj hy => ?_⟩, ⟨fun j y hj hy => ?_⟩, HB6.out.setCell hgl.out _⟩
        · by_cases e : j = k
          · subst e
            rw [HGX.out] at hy
            cases hy
            exact ⟨_, List.getElem?_set_self hkl, HR6.out.set q1 (by decide) _⟩
          · obtain ⟨u, h1, h2⟩ := HD6.out j y (by omega) hy
            exact ⟨u, by rw [List.getElem?_set_ne (by omega)]; exact h1, h2.set q1 (by decide) _⟩
        · obtain ⟨u, h1, h2⟩ := HV6.out j y (by omega) hy
          exact ⟨u, by rw [List.getElem?_set_ne (by omega)]; exact h1, h2.set q1 (by decide) _⟩
      case measure => simp [intOf]; omega
    · obtain rfl : k = ds.length := by omega
      have hlr2 : LRow wr w.heap.size (.slice (some ⟨g, 0, Option.none⟩) ds.length c2) (ds.map (rOf p)) := ⟨vs5, by rw [List.length_map]; exact HO.out, fun j x hj => by
        rw [List.getElem?_map] at hj
        obtain ⟨y, hy, rfl⟩ := Option.map_eq_some_iff.1 hj
        exact HD.out j y (List.getElem?_eq_some_iff.1 hy).1 hy⟩
      have HSR := Lib.hid (chSorted_any (.slice AP p.length cp) p (some ⟨g, 0, Option.none⟩) c2 (ds.map (rOf p)) wr (HS.out.below hbw (Nat.le_refl _)) (HP.out.lift hbw) HT.out.pe hlr2.rows.2 (fun x hx => by
        obtain ⟨y, hy, rfl⟩ := List.mem_map.1 hx
        exact rOf_chk HT.out (HSM.out y hy)) (by rw [List.length_map]; exact HD0.out) (by rw [List.length_map]; exact hdn))
      rw [List.length_map, ← HCL.out] at HSR
      have HB := Lib.hid hbw
      clear hlr2 hbw
      go_wp2_with fail
      refine HSR.out.mono ?_
      rintro e w7 ⟨⟨v7, rfl, hlr7⟩, hb7⟩
      have HLR7 := Lib.hid (hlr7.base HB.out.size)
      have HB7 := Lib.hid (HB.out.trans (hb7.mono HB.out.size))
      obtain ⟨A7, c7, rfl⟩ := hlr7.shape
      clear hlr7 hb7
      go_wp2_with fail
      go_ret2
      exact ⟨⟨_, rfl, HLR7.out⟩, HB7.out⟩

end Go.Proofs.YteenfcmnmenigaaGreatDoor

namespace Go.Proofs.YteenfcmnmenigaaGreatDoor
open Go.RowKit Go.Lib

set_option maxRecDepth 100000 in
set_option maxHeartbeats 2000000 in
theorem chClose_ok (pv : Value) (p : List Int) (A : Option Addr) (c : Nat) (l : List (List Int)) (w : World) (hS : Std w) (hp : IsRow w w.heap.size pv p) (hl : RowsAt w w.heap.size A l) (hk : SmC p l) :
    Calls Tryz.prog 26 #[pv, .slice A l.length c] w fun e w' => (∃ v, e = .returned (.tuple #[v, .int .i64 0]) ∧ LRow w' w.heap.size v (closeL p l)) ∧ Below w.heap.size w w' := by
  have h0 := hk.ok.pos
  have h12 := hk.ok.le
  obtain ⟨a, T, hT⟩ := hk.tab
  have HC := Lib.hid (chCheck_any pv p A c l w hS hp hl (by omega))
  rw [hk.ok.err] at HC
  obtain ⟨b, o, rv, rfl, hab, hca, hrow⟩ := rows_pl hl (List.getElem?_eq_getElem h0)
  rw [Nat.add_zero] at hca
  have hg0 : l[0]?.getD [] = l[0] := by rw [List.getElem?_eq_getElem h0]; rfl
  have hcr : chkAll p [l[0]] = 0 := hk.ok.chk _ (List.getElem_mem h0)
  have HCL : Hid (clsL p l l[0] = closeL p l) := Lib.hid (by unfold closeL; rw [hg0])
  have HRT := Lib.hid (fun (W : World) (hb : Below w.heap.size w W) => closed_ok pv rv p l[0] (some ⟨b, o, Option.none⟩) c l W a T hT (fun x hx => hk.sm x hx _ (List.getElem_mem h0)) h0 (hS.below hb (Nat.le_refl _)) (hp.lift hb) (hrow.lift hb) (hl.lift hb) hk.ok.chk hcr (by omega))
  obtain ⟨AP, cp, rfl⟩ := hp.shape
  obtain ⟨AR, cr, rfl⟩ := hrow.shape
  rw [HCL.out] at HRT
  clear hS hp hl hk hrow hcr hg0 hT HCL
  generalize l[0] = r at *
  generalize closeL p l = K at *
  go_enter Tryz.func26, Tryz.ntmps26
  go_wp2_with fail
  refine HC.out.mono ?_
  rintro e w1 ⟨rfl, hb1⟩
  have hca1 := (hb1.cell (p := ⟨b, o, Option.none⟩) hab).trans hca
  have HR1 := Lib.hid (HRT.out w1 hb1)
  have HB1 := Lib.hid hb1
  clear hb1 HRT
  go_wp2_with fail
  refine HR1.out.mono ?_
  rintro e w2 ⟨⟨v, rfl, hlr⟩, hb2⟩
  have HB2 := Lib.hid (HB1.out.trans (hb2.mono HB1.out.size))
  have HLR := Lib.hid (hlr.base HB1.out.size)
  obtain ⟨A2, c2, rfl⟩ := hlr.shape
  clear hb2 hlr
  go_wp2_with fail
  go_ret2
  exact ⟨⟨_, rfl, HLR.out⟩, HB2.out⟩

/-- A list of lists of rows, in blocks that somebody made from base on. -/
def LLRow (w : World) (base : Nat) (v : Value) (l : List (List (List Int))) : Prop := ∃ vs, w.ownsRow base 24 1 v l.length vs ∧ ∀ (j : Nat) (x : List (List Int)), l[j]? = some x → ∃ u, vs[j]? = some u ∧ LRow w base u x
theorem LLRow.nil (w : World) (base : Nat) : LLRow w base (.slice Option.none 0 0) [] := ⟨[], World.ownsRow_nil _ _ _ _, fun j x h => by simp at h⟩
theorem LLRow.below {w w' : World} {base : Nat} {v : Value} {l : List (List (List Int))} (h : LLRow w base v l) (hb : Below w.heap.size w w') : LLRow w' base v l := by
  obtain ⟨vs, h1, h2⟩ := h
  exact ⟨vs, own_below h1 hb, fun j x hj => by obtain ⟨u, h3, h4⟩ := h2 j x hj; exact ⟨u, h3, h4.below hb⟩⟩
theorem LLRow.base {w : World} {b b' : Nat} {v : Value} {l : List (List (List Int))} (h : LLRow w b v l) (hb : b' ≤ b) : LLRow w b' v l := by
  obtain ⟨vs, h1, h2⟩ := h
  exact ⟨vs, own_base h1 hb, fun j x hj => by obtain ⟨u, h3, h4⟩ := h2 j x hj; exact ⟨u, h3, h4.base hb⟩⟩
theorem LLRow.shape {w : World} {base : Nat} {v : Value} {l : List (List (List Int))} (h : LLRow w base v l) : ∃ A c, v = .slice A l.length c := by
  obtain ⟨vs, h1, _⟩ := h
  rcases h1.2 with ⟨rfl, h0⟩ | ⟨g, cap, cur, rfl, _⟩
  · exact ⟨Option.none, 0, by rw [h0]⟩
  · exact ⟨_, _, rfl⟩
theorem LRow.alloc {w : World} {base : Nat} {v : Value} {l : List (List Int)} (h : LRow w base v l) (o : Obj) : LRow (w.alloc o) base v l := by
  obtain ⟨vs, h1, h2⟩ := h
  exact ⟨vs, h1.alloc o, fun j x hj => by obtain ⟨u, h3, h4⟩ := h2 j x hj; exact ⟨u, h3, h4.alloc o⟩⟩
theorem LRow.grownO {w w' : World} {base b2 s n : Nat} {v v2 : Value} {l : List (List Int)} {e : TypeId} {xs : List Value} (h : LRow w base v l) (ho : w.ownsRow b2 e s v2 n xs) (hne : e ≠ 31) (hni : e ≠ 3) (hg : w.grownBy w' v2.ownBlock) : LRow w' base v l := by
  obtain ⟨vs, h1, h2⟩ := h
  exact ⟨vs, own_grown ho h1 hne hg, fun j x hj => by obtain ⟨u, h3, h4⟩ := h2 j x hj; exact ⟨u, h3, h4.grown ho hni hg⟩⟩
theorem LLRow.snoc {w w' : World} {base : Nat} {v v' u : Value} {l : List (List (List Int))} {x : List (List Int)} {vs : List Value} (h1 : w.ownsRow base 24 1 v l.length vs) (h2 : ∀ (j : Nat) (x : List (List Int)), l[j]? = some x → ∃ u, vs[j]? = some u ∧ LRow w base u x) (hx : LRow w base u x)
    (hown : w'.ownsRow base 24 1 v' (l.length + 1) (vs ++ [u])) (hg : w.grownBy w' v.ownBlock) : LLRow w' base v' (l ++ [x]) := by
  have hvl : vs.length = l.length := by have := h1.1; omega
  refine ⟨vs ++ [u], by rw [List.length_append]; exact hown, fun j y hj => ?_⟩
  by_cases hjl : j < l.length
  · rw [List.getElem?_append_left hjl] at hj
    obtain ⟨t, h3, h4⟩ := h2 j y hj
    exact ⟨t, by rw [List.getElem?_append_left (by omega)]; exact h3, h4.grownO h1 (by decide) (by decide) hg⟩
  · have hjn := (List.getElem?_eq_some_iff.1 hj).1
    rw [List.length_append] at hjn
    simp at hjn
    obtain rfl : j = l.length := by omega
    rw [List.getElem?_append_right (Nat.le_refl _), Nat.sub_self] at hj
    simp at hj
    subst hj
    exact ⟨u, by rw [List.getElem?_append_right (by omega), hvl, Nat.sub_self]; rfl, hx.grownO h1 (by decide) (by decide) hg⟩

theorem Tryz.info_rows : (Tryz.prog.info? 24).map (fun i => (i.zero, i.size, i.bytes)) = some (some (.slice Option.none 0 0), 1, 24) := by kernel_rfl

set_option maxRecDepth 100000 in
set_option maxHeartbeats 4000000 in
theorem chInv_ok (pv : Value) (p : List Int) (A : Option Addr) (c : Nat) (l : List (List Int)) (w : World) (hS : Std w) (hp : IsRow w w.heap.size pv p) (hl : RowsAt w w.heap.size A l) (hk : SmC p l) (hsm : ∀ x ∈ closeL p l, ∀ y ∈ closeL p l, SmR p (difI x y)) (h0 : 0 < (closeL p l).length) (h12 : (closeL p l).length ≤ 1000) (hck : ∀ x ∈ closeL p l, chkAll p [x] = 0) :
    Calls Tryz.prog 27 #[pv, .slice A l.length c] w fun e w' => (∃ v, e = .returned (.tuple #[v, .int .i64 0]) ∧ LLRow w' w.heap.size v (invL p l)) ∧ Below w.heap.size w w' := by
  obtain ⟨i0, hi0, hz0, hz1, hz2⟩ := info_parts Tryz.info_rows
  have HC := Lib.hid (chClose_ok pv p A c l w hS hp hl hk)
  obtain ⟨a, T, hT⟩ := hk.tab
  have HT : Box (TabOk p a T) := ⟨hT⟩
  have HIV : Hid ((closeL p l).map (clsL p (closeL p l)) = invL p l) := Lib.hid rfl
  generalize closeL p l = K at *
  have HSM : Box (∀ x ∈ K, ∀ y ∈ K, SmR p (difI x y)) := ⟨hsm⟩
  have HCK : Box (∀ x ∈ K, chkAll p [x] = 0) := ⟨hck⟩
  have H0 : Box (0 < K.length) := ⟨h0⟩
  have HS := Lib.hid hS
  have HP := Lib.hid hp
  obtain ⟨AP, cp, rfl⟩ := hp.shape
  generalize invL p l = I at *
  clear hS hp hl hk hsm hck hT h0
  go_enter Tryz.func27, Tryz.ntmps27
  go_wp2_with fail
  refine HC.out.mono ?_
  rintro e w1 ⟨⟨v1, rfl, hlr⟩, hb1⟩
  obtain ⟨A1, c1, rfl⟩ := hlr.shape
  have HL1 : Box (RowsAt w1 w1.heap.size A1 K) := ⟨hlr.rows.2⟩
  have HB1 := Lib.hid hb1
  clear HC hlr hb1
  go_wp2_with fail
  go_loopw [8, 24] (fun o i wr => ∃ (k : Nat), k ≤ K.length ∧ i = .int .i64 k ∧ LLRow wr w1.heap.size o ((K.take k).map (clsL p K)) ∧ Below w1.heap.size w1 wr) (fun _ i _ => K.length - (intOf i).toNat)
  case atStart => exact ⟨0, Nat.zero_le _, rfl, LLRow.nil _ _, Below.refl _ _⟩
  case round =>
    obtain ⟨k, hk, rfl, hlr, hbw⟩ := hrel
    by_cases hlt : k < K.length
    · obtain ⟨b, o, xv, rfl, hab, hca, hrow⟩ := rows_pl HL1.out (List.getElem?_eq_getElem hlt)
      have hca' := (hbw.cell (p := ⟨b, o + k, Option.none⟩) hab).trans hca
      have HBW := Lib.hid (HB1.out.trans (hbw.mono HB1.out.size))
      have HRT := Lib.hid (closed_ok _ xv p K[k] (some ⟨b, o, Option.none⟩) c1 K wr a T HT.out (fun x hx => HSM.out x hx _ (List.getElem_mem hlt)) H0.out (HS.out.below HBW.out (Nat.le_refl _)) (HP.out.lift HBW.out) (hrow.lift hbw) (HL1.out.lift hbw) HCK.out (HCK.out _ (List.getElem_mem hlt)) h12)
      have HNX : Hid ((K.take (k + 1)).map (clsL p K) = (K.take k).map (clsL p K) ++ [clsL p K K[k]]) := Lib.hid (by rw [← List.take_append_getElem hlt, List.map_append]; rfl)
      have HLN : Hid (((K.take k).map (clsL p K)).length = k) := Lib.hid (by rw [List.length_map, List.length_take]; omega)
      generalize K[k]'hlt = x at *
      obtain ⟨AX, cx, rfl⟩ := hrow.shape
      have HLR := Lib.hid hlr
      have HB := Lib.hid hbw
      clear hlr hbw hca hrow
      generalize clsL p K x = y at *
      go_wp2_with fail
      refine HRT.out.mono ?_
      rintro e w2 ⟨⟨v2, rfl, hl2⟩, hb2⟩
      have HB2 := Lib.hid (HB.out.trans (hb2.mono HB.out.size))
      have HBW2 := Lib.hid (HBW.out.trans (hb2.mono HBW.out.size))
      have HLR2 := Lib.hid (HLR.out.below hb2)
      have HL2 := Lib.hid (hl2.base HB.out.size)
      obtain ⟨A2, c2, rfl⟩ := hl2.shape
      clear hb2 hl2 HLR HB HRT HBW
      obtain ⟨vs, hown, hvs⟩ := HLR2.out
      rw [HLN.out] at hown
      have HO := Lib.hid hown
      have HVS := Lib.hid hvs
      have hwk : w1.heap.size ≤ w2.heap.size := HB2.out.size
      clear hown hvs
      go_wp2_with (at_builtin; refine wpList_append_own _ rfl _ _ _ rfl w1.heap.size 24 i0 (.slice Option.none 0 0) 1 24 Tryz.underlying44 hi0 hz0 hz1 hz2 rfl (by decide) _ _ _ rfl (HO.out.alloc _) ⟨w2.heap.size, 0, Option.none⟩ 1 1 [_] rfl rfl (cell_one_new _ _ _) (by intro u hu; simp at hu; subst hu; rfl) (by unfold maxLen; omega) (by omega) (by simp; omega) ?_; intro v9 w9 hown9 hg9 _)
      go_roundw
      case rel =>
        refine ⟨k + 1, by omega, by go_num, ?_, ?_⟩
        · rw [HNX.out]
          have hO := HO.out
          rw [← HLN.out] at hO hown9
          exact LLRow.snoc (hO.alloc _) (fun j y hj => by obtain ⟨u, h1, h2⟩ := HVS.out j y hj; exact ⟨u, h1, h2.alloc _⟩) (HL2.out.alloc _) hown9 hg9
        · exact (HB2.out.alloc hwk _).grown hg9 (by simp; omega) (fun k hk => (HO.out.lt k hk).1)
      case measure => simp [intOf]; omega
    · obtain rfl : k = K.length := by omega
      rw [List.take_length, HIV.out] at hlr
      have HLR := Lib.hid hlr
      obtain ⟨A9, c9, rfl⟩ := hlr.shape
      clear hlr
      go_wp2_with fail
      go_ret2
      exact ⟨⟨_, rfl, HLR.out.base HB1.out.size⟩, HB1.out.trans (hbw.mono HB1.out.size)⟩

end Go.Proofs.YteenfcmnmenigaaGreatDoor
