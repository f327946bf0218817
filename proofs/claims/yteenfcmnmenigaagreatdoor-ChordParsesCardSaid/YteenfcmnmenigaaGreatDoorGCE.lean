/- chord.read: what it reads, and the walk. chord.Of. chord.Parse: what it answers. chord.Parse: the walk. -/
import Derived.Test.YteenfcmnmenigaaGreatDoorGK
import Derived.Test.YteenfcmnmenigaaGreatDoorGTA
import Derived.Test.YteenfcmnmenigaaGreatDoorGTB
import Derived.Shelf.Strconv.AtoiAll
import Derived.Test.YteenfcmnmenigaaGreatDoorGCD
import Derived.Test.YteenfcmnmenigaaGreatDoorGCA
namespace Go.Proofs.YteenfcmnmenigaaGreatDoor
open Go.Proofs Go.RowKit Go.Lib

/-- The number of a part: digits that are written so, at most 9. -/
def rdNum (x : List UInt8) : Option Nat :=
  match atoiAll x with
  | .ok n => if x.length ≤ 9 ∧ itoa n = x ∧ 0 ≤ n then some n.toNat else none
  | _ => none
def rdVal (x : List UInt8) : Nat := (rdNum x).getD 0
def rdAll (ps : List (List UInt8)) : Option (List Nat) := if ps.all (fun x => (rdNum x).isSome) then some (ps.map rdVal) else none
def readL (s : List UInt8) : Option (List Nat) := if 120 < s.length then none else if 12 < (cutAll 58 s).length then none else rdAll (cutAll 58 s)

theorem rdNum_ok {x : List UInt8} {n : Int} (h : atoiAll x = .ok n) (h1 : x.length ≤ 9) (h2 : itoa n = x) (h3 : 0 ≤ n) : rdNum x = some n.toNat := by
  unfold rdNum
  rw [h]
  exact if_pos ⟨h1, h2, h3⟩
theorem rdNum_no {x : List UInt8} (h : ∀ n, atoiAll x = .ok n → ¬ (x.length ≤ 9 ∧ itoa n = x ∧ 0 ≤ n)) : rdNum x = none := by
  unfold rdNum
  split
  · rename_i n e; exact if_neg (h n e)
  · rfl
theorem rdNum_some {x : List UInt8} {m : Nat} (h : rdNum x = some m) : x.length ≤ 9 ∧ x = itoa (m : Int) := by
  unfold rdNum at h
  split at h
  · rename_i n e
    split at h
    · rename_i hc
      cases h
      refine ⟨hc.1, ?_⟩
      rw [Int.toNat_of_nonneg hc.2.2, hc.2.1]
    · cases h
  · cases h
theorem rdNum_lt {x : List UInt8} {m : Nat} (h : rdNum x = some m) : m ≤ 999999999 := by
  obtain ⟨h1, h2⟩ := rdNum_some h
  have := itoa_len_lt (z := (m : Int)) (k := 9) (by rw [← h2]; exact h1)
  omega
theorem rdAll_none {ps : List (List UInt8)} {x : List UInt8} (hx : x ∈ ps) (h : rdNum x = none) : rdAll ps = none := by
  unfold rdAll
  rw [if_neg]
  intro hc
  have := List.all_eq_true.1 hc x hx
  rw [h] at this
  exact absurd this (by decide)
theorem rdAll_some {ps : List (List UInt8)} (h : ∀ x ∈ ps, ∃ m, rdNum x = some m) : rdAll ps = some (ps.map rdVal) := by
  unfold rdAll
  rw [if_pos]
  exact List.all_eq_true.2 fun x hx => by obtain ⟨m, e⟩ := h x hx; rw [e]; rfl

theorem atoiAll_rng {l : List UInt8} {n : Int} (h : atoiAll l = .ok n) : -9223372036854775808 ≤ n ∧ n ≤ 9223372036854775807 := by
  cases l with
  | nil => cases h
  | cons c r =>
    simp only [atoiAll] at h
    generalize parseMag _ = m at h
    cases m with
    | ok u =>
      simp only [] at h
      split at h
      · cases h
      · split at h
        · cases h
        · rename_i h1 h2
          injection h with h
          split at h <;> omega
    | _ => cases h

/-- strconv.Atoi of any text. -/
def AtPost (x : List UInt8) (e : Ending) : Prop := (∃ n, atoiAll x = .ok n ∧ e = .returned (.tuple #[.int .i64 n, .nilIface])) ∨ ((∀ n, atoiAll x ≠ .ok n) ∧ ∃ v t q, e = .returned (.tuple #[.int .i64 v, .iface t q]))
theorem atoi_all (x : List UInt8) (w : World) (hS : Std w) (hx : x.length ≤ 100000) :
    Calls Tryz.prog 56 #[.string ⟨x.toArray⟩] w fun e w' => AtPost x e ∧ Below w.heap.size w w' := by
  cases h : atoiAll x with
  | ok n =>
    exact (Tryz.strconv_Atoi_ok ⟨x.toArray⟩ (by simp [ByteArray.size]; omega) n (by simpa using h) w).mono fun _ _ ⟨h1, hw⟩ => ⟨.inl ⟨n, h, h1⟩, bytes_below' hw⟩
  | range =>
    obtain ⟨te, pe, hc⟩ := hS.rng
    refine (Tryz.strconv_Atoi_range ⟨x.toArray⟩ (by simp [ByteArray.size]; omega) (by simpa using h) (.iface te pe) w hc (.inr ⟨te, pe, rfl⟩)).mono ?_
    rintro e w' ⟨n, rfl, _, _, hb⟩
    exact ⟨.inr ⟨(fun n e => by rw [h] at e; cases e), _, _, _, rfl⟩, hb⟩
  | _ =>
    obtain ⟨te, pe, hc⟩ := hS.syn
    refine (Any.strconv_Atoi_syntax Tryz.laysC172 ⟨x.toArray⟩ (by simp [ByteArray.size]; omega) (by simpa using h) (.iface te pe) w hc (.inr ⟨te, pe, rfl⟩)).mono ?_
    rintro e w' ⟨n, rfl, _, _, hb⟩
    exact ⟨.inr ⟨(fun n e => by rw [h] at e; cases e), _, _, _, rfl⟩, hb⟩

/-- What read returns. -/
def ReadPost (s : List UInt8) (e : Ending) (w' : World) : Prop :=
  (∃ ns, readL s = some ns ∧ ∃ v, e = .returned (.tuple #[v, .bool true]) ∧ ORow w' v (ns.map Int.ofNat)) ∨ (readL s = none ∧ ∃ A n c, e = .returned (.tuple #[.slice A n c, .bool false]))

def rdTo (ps : List (List UInt8)) (k : Nat) : List Int := (ps.take k).map fun x => Int.ofNat (rdVal x)
theorem rdTo_len {ps : List (List UInt8)} {k : Nat} (h : k ≤ ps.length) : (rdTo ps k).length = k := by unfold rdTo; rw [List.length_map, List.length_take]; omega
theorem rdTo_next {ps : List (List UInt8)} {k : Nat} (h : k < ps.length) : rdTo ps (k + 1) = rdTo ps k ++ [Int.ofNat (rdVal ps[k])] := by
  unfold rdTo
  rw [← List.take_append_getElem h, List.map_append]
  rfl

set_option maxRecDepth 100000 in
set_option maxHeartbeats 4000000 in
theorem chRead_any (s : List UInt8) (m : Int) (w : World) (hS : Std w) (hm : w.cell? ⟨2, 0, Option.none⟩ = some (.int .i64 m)) (hs : s.length ≤ 100000) :
    Calls Tryz.prog 52 #[.string ⟨s.toArray⟩] w fun e w' => ReadPost s e w' ∧ Below w.heap.size w w' := by
  obtain ⟨i0, hi0, hz0, hz1, hz2⟩ := info_parts Tryz.info_int
  have HRL : Hid (readL s = if 120 < s.length then none else if 12 < (cutAll 58 s).length then none else rdAll (cutAll 58 s)) := Lib.hid rfl
  have HRP : ∀ e w', Hid (ReadPost s e w' ↔ ((∃ ns, readL s = some ns ∧ ∃ v, e = .returned (.tuple #[v, .bool true]) ∧ ORow w' v (ns.map Int.ofNat)) ∨ (readL s = none ∧ ∃ A n c, e = .returned (.tuple #[.slice A n c, .bool false])))) := fun _ _ => Lib.hid Iff.rfl
  have HSP := Lib.hid (splitAt_any 58 s m w (by omega) hm)
  have hln := cutAll_len 58 s
  have hpc := cutAll_piece 58 s
  have HS := Lib.hid hS
  generalize readL s = R at *
  by_cases h120 : 120 < s.length
  · rw [if_pos h120] at HRL
    clear hS hm hln hpc HSP
    go_enter Tryz.func52, Tryz.ntmps52
    go_wp2_with fail
    go_ret2
    exact ⟨(HRP _ _).out.2 (.inr ⟨HRL.out, _, _, _, rfl⟩), Below.refl _ _⟩
  · rw [if_neg h120] at HRL
    have hplen : Box (∀ x ∈ cutAll 58 s, x.length ≤ 100000) := ⟨fun x hx => Nat.le_trans (hpc x hx) hs⟩
    generalize cutAll 58 s = ps at *
    have hpsl : ps.length ≤ 121 := by omega
    clear hS hm hln hpc
    go_enter Tryz.func52, Tryz.ntmps52
    go_wp2_with fail
    refine HSP.out.mono ?_
    rintro e w1 ⟨B, rfl, htx, hb1⟩
    have HTX := Lib.hid htx
    have HB1 := Lib.hid hb1
    replace HS := Lib.hid (HS.out.below hb1 (Nat.le_refl _))
    clear htx hb1 HSP h120
    go_wp2_with fail
    go_loopw [4, 15] (fun o i wr => ∃ (k : Nat), k ≤ ps.length ∧ i = .int .i64 k ∧ Box (∀ j, j < k → ∃ n, rdNum (ps[j]?.getD []) = some n) ∧ wr.ownsRow w1.heap.size 3 1 o k (is (rdTo ps k)) ∧ Below w1.heap.size w1 wr) (fun _ i _ => ps.length - (intOf i).toNat)
    case atStart => exact ⟨0, Nat.zero_le _, rfl, ⟨fun j hj => by omega⟩, World.ownsRow_nil _ _ _ _, Below.refl _ _⟩
    case round =>
      obtain ⟨k, hk, rfl, HD, hown, hbw⟩ := hrel
      by_cases hlt : k < ps.length
      · have hca := (HTX.out.below hbw).2 k hlt
        have hgk : ps[k]?.getD [] = ps[k] := by rw [List.getElem?_eq_getElem hlt]; rfl
        rw [hgk] at hca
        have HMK := Lib.hid (List.getElem_mem hlt)
        have HNX := Lib.hid (rdTo_next hlt)
        have HGK := Lib.hid hgk
        have HPL := Lib.hid (hplen.out _ HMK.out)
        have HAT := Lib.hid (atoi_all ps[k] wr (HS.out.below hbw (Nat.le_refl _)) HPL.out)
        have HO := Lib.hid hown
        have HB := Lib.hid hbw
        clear hown hbw hgk
        generalize ps[k]'hlt = x at *
        have HBAD : Hid (rdNum x = none → R = none) := Lib.hid fun h => by
          rw [HRL.out]
          split
          · rfl
          · exact rdAll_none HMK.out h
        go_wp2_with fail
        refine HAT.out.mono ?_
        rintro e w2 ⟨hat, hb2⟩
        have HO2 := Lib.hid (own_below HO.out hb2)
        have HB2 := Lib.hid (HB.out.trans (hb2.mono HB.out.size))
        clear hb2 HAT HO HB hca
        rcases hat with ⟨n, hn, rfl⟩ | ⟨hn, v, t, q, rfl⟩
        · obtain ⟨r1, r2⟩ := atoiAll_rng hn
          have HIT := Lib.hid (itoa_any n w2 r1 r2 (HS.out.below HB2.out (Nat.le_refl _)))
          have HOK := fun h1 h2 h3 => Lib.hid (rdNum_ok hn h1 h2 h3)
          have HNO := fun h => Lib.hid (HBAD.out (rdNum_no (x := x) fun n' e => by rw [hn] at e; cases e; exact h))
          clear hn r1 r2
          by_cases h9 : x.length ≤ 9
          · by_cases hI : itoa n = x
            · by_cases h0 : 0 ≤ n
              · have HV := Lib.hid (HOK h9 hI h0).out
                have HDN : Box (∀ j, j < k + 1 → ∃ n, rdNum (ps[j]?.getD []) = some n) := ⟨fun j hj => by
                  by_cases e : j = k
                  · subst e; exact ⟨_, by rw [HGK.out]; exact HV.out⟩
                  · exact HD.out j (by omega)⟩
                have HNX2 : Hid (rdTo ps (k + 1) = rdTo ps k ++ [n]) := Lib.hid (by
                  rw [HNX.out]
                  unfold rdVal
                  rw [HV.out]
                  congr 2
                  exact Int.toNat_of_nonneg h0)
                rw [hI] at HIT
                clear HOK HNO HD HBAD HNX HV hI
                have hwk : w1.heap.size ≤ w2.heap.size := HB2.out.size
                go_wp2_with fail
                refine HIT.out.mono ?_
                rintro e w3 ⟨rfl, hb3⟩
                have HO3 := Lib.hid (own_below HO2.out hb3)
                have HB3 := Lib.hid (HB2.out.trans (hb3.mono HB2.out.size))
                have hwk3 : w1.heap.size ≤ w3.heap.size := HB3.out.size
                clear hb3
                go_wp2_with (at_builtin; refine wpList_append_own _ rfl _ _ _ rfl w1.heap.size 3 i0 (.int .i64 0) 1 8 Tryz.underlying22 hi0 hz0 hz1 hz2 rfl (by decide) _ _ _ rfl (HO3.out.alloc _) ⟨w3.heap.size, 0, Option.none⟩ 1 1 [_] rfl rfl (cell_one_new _ _ _) (by intro u hu; simp at hu; subst hu; rfl) (by unfold maxLen; omega) (by omega) (by simp; omega) ?_; intro v9 w9 hown9 hg9 _)
                go_roundw
                case rel =>
                  refine ⟨k + 1, by omega, by go_num, HDN, ?_, (HB3.out.alloc hwk3 _).grown hg9 (by simp; omega) (fun k hk => (HO3.out.lt k hk).1)⟩
                  rw [HNX2.out, is_append]; exact hown9
                case measure => simp [intOf]; omega
              · have HN := HNO (fun h => h0 h.2.2)
                rw [hI] at HIT
                clear HOK HNO hI
                go_wp2_with fail
                refine HIT.out.mono ?_
                rintro e w3 ⟨rfl, hb3⟩
                have HB3 := Lib.hid (HB2.out.trans (hb3.mono HB2.out.size))
                clear hb3
                go_wp2_with fail
                go_ret2
                exact ⟨(HRP _ _).out.2 (.inr ⟨HN.out, _, _, _, rfl⟩), HB1.out.trans (HB3.out.mono HB1.out.size)⟩
            · have HN := HNO (fun h => hI h.2.1)
              clear HOK HNO
              generalize itoa n = y at *
              go_wp2_with fail
              refine HIT.out.mono ?_
              rintro e w3 ⟨rfl, hb3⟩
              have HB3 := Lib.hid (HB2.out.trans (hb3.mono HB2.out.size))
              clear hb3
              go_wp2_with fail
              go_ret2
              exact ⟨(HRP _ _).out.2 (.inr ⟨HN.out, _, _, _, rfl⟩), HB1.out.trans (HB3.out.mono HB1.out.size)⟩
          · have HN := HNO (fun h => h9 h.1)
            clear HOK HNO
            go_wp2_with fail
            go_ret2
            exact ⟨(HRP _ _).out.2 (.inr ⟨HN.out, _, _, _, rfl⟩), HB1.out.trans (HB2.out.mono HB1.out.size)⟩
        · have HN := Lib.hid (HBAD.out (rdNum_no (x := x) fun n' e => absurd e (hn n')))
          clear hn
          go_wp2_with fail
          go_ret2
          exact ⟨(HRP _ _).out.2 (.inr ⟨HN.out, _, _, _, rfl⟩), HB1.out.trans (HB2.out.mono HB1.out.size)⟩
      · obtain rfl : k = ps.length := by omega
        have HO := Lib.hid hown
        obtain ⟨A1, c1, rfl⟩ : ∃ A c, u4 = .slice A ps.length c := by
          rcases hown.2 with ⟨rfl, h0⟩ | ⟨g, cap, cur, rfl, _⟩
          · exact ⟨Option.none, 0, by rw [h0]⟩
          · exact ⟨_, _, rfl⟩
        have HV : Hid (rdAll ps = some (ps.map rdVal)) := Lib.hid (rdAll_some fun x hx => by
          obtain ⟨j, hj, rfl⟩ := List.getElem_of_mem hx
          have := HD.out j hj
          rw [List.getElem?_eq_getElem hj] at this
          exact this)
        by_cases h12 : 12 < ps.length
        · rw [if_pos h12] at HRL
          clear hown HD
          go_wp2_with fail
          go_ret2
          exact ⟨(HRP _ _).out.2 (.inr ⟨HRL.out, _, _, _, congrArg (fun b => Ending.returned (.tuple #[.slice A1 ps.length c1, .bool b])) (decide_eq_false (by omega) : decide ((ps.length : Int) ≤ 12) = false)⟩), HB1.out.trans (hbw.mono HB1.out.size)⟩
        · rw [if_neg h12, HV.out] at HRL
          have HOR : Hid (ORow wr (.slice A1 ps.length c1) ((ps.map rdVal).map Int.ofNat)) := Lib.hid (by
            have h1 : rdTo ps ps.length = (ps.map rdVal).map Int.ofNat := by unfold rdTo; rw [List.take_length, List.map_map]; rfl
            unfold ORow
            rw [← h1, rdTo_len (Nat.le_refl _)]
            exact own_base HO.out (Nat.zero_le _))
          clear hown HD
          go_wp2_with fail
          go_ret2
          exact ⟨(HRP _ _).out.2 (.inl ⟨_, HRL.out, _, congrArg (fun b => Ending.returned (.tuple #[.slice A1 ps.length c1, .bool b])) (decide_eq_true (by omega) : decide ((ps.length : Int) ≤ 12) = true), HOR.out⟩), HB1.out.trans (hbw.mono HB1.out.size)⟩

end Go.Proofs.YteenfcmnmenigaaGreatDoor

namespace Go.Proofs.YteenfcmnmenigaaGreatDoor
open Go.RowKit Go.Lib

/-- The error of Of. -/
def ofErr (p : List Int) (l : List (List Int)) : Int := if primeErr p ≠ 0 then primeErr p else if l.length = 0 then 13 else if chkAll p l ≠ 0 then chkAll p l else if 12 < (onceL p l).length then 4 else 0
/-- A list of rows, or an error. -/
def RowsPost (x : Int) (l : List (List Int)) (base : Nat) (e : Ending) (w' : World) : Prop :=
  (x = 0 ∧ ∃ v, e = .returned (.tuple #[v, .int .i64 0]) ∧ LRow w' base v l) ∨ (x ≠ 0 ∧ e = .returned (.tuple #[.slice Option.none 0 0, .int .i64 x]))

theorem chk_each {p : List Int} : ∀ {l : List (List Int)}, chkAll p l = 0 → ∀ x ∈ l, chkAll p [x] = 0
  | [], _, x, hx => by cases hx
  | y :: l, h, x, hx => by
    unfold chkAll at h
    split at h
    · rename_i h0; exact absurd h h0
    rename_i h0
    rw [rowsErr] at h
    split at h
    · rename_i h1; exact absurd h h1
    rename_i h1
    rcases List.mem_cons.1 hx with rfl | hx
    · unfold chkAll
      rw [if_neg h0, rowsErr, if_neg h1, rowsErr]
    · refine chk_each (l := l) ?_ x hx
      unfold chkAll
      rw [if_neg h0]
      exact h

set_option maxRecDepth 100000 in
set_option maxHeartbeats 2000000 in
theorem chOf_any (pv : Value) (p : List Int) (A : Option Addr) (c : Nat) (l : List (List Int)) (w : World) (hS : Std w) (hp : IsRow w w.heap.size pv p) (hl : RowsAt w w.heap.size A l) (hn : l.length ≤ 1000) :
    Calls Tryz.prog 9 #[pv, .slice A l.length c] w fun e w' => RowsPost (ofErr p l) (onceL p l) w.heap.size e w' ∧ Below w.heap.size w w' := by
  have HPC := Lib.hid (primeCheck_any pv p _ w hp)
  have HCA := Lib.hid (checkAll_any pv p A c w.heap.size l w hp hl (by omega))
  have HSR := Lib.hid (fun h1 h2 h3 => chSorted_any pv p A c l w hS hp h1 hl h2 h3 hn)
  have HCE := Lib.hid (@chk_each p l)
  have HU : Hid (ofErr p l = if primeErr p ≠ 0 then primeErr p else if l.length = 0 then 13 else if chkAll p l ≠ 0 then chkAll p l else if 12 < (onceL p l).length then 4 else 0) := Lib.hid rfl
  generalize ofErr p l = V at *
  obtain ⟨AP, cp, rfl⟩ := hp.shape
  clear hS hp hl
  by_cases hpe : primeErr p = 0
  · rw [if_neg (by rw [hpe]; decide)] at HU
    rw [hpe] at HPC
    have HP0 := Lib.hid hpe
    clear hpe
    by_cases h0 : l.length = 0
    · rw [if_pos h0] at HU
      obtain rfl := HU.out
      have h0' : ((l.length : Int) == 0) = true := by rw [h0]; rfl
      clear HCA HSR HCE
      go_enter Tryz.func9, Tryz.ntmps9
      go_wp2_with fail
      refine HPC.out.mono ?_
      rintro e w1 ⟨rfl, hw⟩
      have hb1 : Below w.heap.size w w1 := by rw [← hw]; exact Below.refl _ _
      clear hw
      go_wp2_with fail
      go_ret2
      exact ⟨.inr ⟨by decide, rfl⟩, hb1⟩
    · rw [if_neg h0] at HU
      have h0' : ((l.length : Int) == 0) = false := by rw [beq_eq_false_iff_ne]; omega
      have HL0 : Box (0 < l.length) := ⟨by omega⟩
      clear h0
      by_cases hck : chkAll p l = 0
      · rw [if_neg (by rw [hck]; decide)] at HU
        rw [hck] at HCA
        have HS1 := Lib.hid (HSR.out HP0.out (HCE.out hck) HL0.out)
        clear hck HCE HSR
        generalize onceL p l = ds at *
        by_cases h12 : 12 < ds.length
        · rw [if_pos h12] at HU
          obtain rfl := HU.out
          go_enter Tryz.func9, Tryz.ntmps9
          go_wp2_with fail
          refine HPC.out.mono ?_
          rintro e w1 ⟨rfl, hw⟩
          subst hw
          go_wp2_with fail
          refine HCA.out.mono ?_
          rintro e w1 ⟨rfl, hw⟩
          subst hw
          go_wp2_with fail
          refine HS1.out.mono ?_
          rintro e w1 ⟨⟨v, rfl, hlr⟩, hb1⟩
          obtain ⟨A2, c2, rfl⟩ := hlr.shape
          clear hlr
          go_wp2_with fail
          go_ret2
          exact ⟨.inr ⟨by decide, rfl⟩, hb1⟩
        · rw [if_neg h12] at HU
          obtain rfl := HU.out
          have h12' : decide (12 < (ds.length : Int)) = false := decide_eq_false (by omega)
          go_enter Tryz.func9, Tryz.ntmps9
          go_wp2_with fail
          refine HPC.out.mono ?_
          rintro e w1 ⟨rfl, hw⟩
          subst hw
          go_wp2_with fail
          refine HCA.out.mono ?_
          rintro e w1 ⟨rfl, hw⟩
          subst hw
          go_wp2_with fail
          refine HS1.out.mono ?_
          rintro e w1 ⟨⟨v, rfl, hlr⟩, hb1⟩
          have HLR := Lib.hid hlr
          obtain ⟨A2, c2, rfl⟩ := hlr.shape
          clear hlr
          go_wp2_with fail
          go_ret2
          exact ⟨.inl ⟨rfl, _, rfl, HLR.out⟩, hb1⟩
      · rw [if_pos hck] at HU
        obtain rfl := HU.out
        have hne : (chkAll p l != 0) = true := by simpa using hck
        have HNE := Lib.hid hck
        clear hck HSR HCE HU
        generalize chkAll p l = z at *
        go_enter Tryz.func9, Tryz.ntmps9
        go_wp2_with fail
        refine HPC.out.mono ?_
        rintro e w1 ⟨rfl, hw⟩
        subst hw
        go_wp2_with fail
        refine HCA.out.mono ?_
        rintro e w1 ⟨rfl, hw⟩
        subst hw
        go_wp2_with fail
        go_ret2
        exact ⟨.inr ⟨HNE.out, rfl⟩, Below.refl _ _⟩
  · rw [if_pos hpe] at HU
    obtain rfl := HU.out
    have hne : (primeErr p != 0) = true := by simpa using hpe
    have HNE := Lib.hid hpe
    clear hpe HSR HCE HCA HU
    generalize primeErr p = z at *
    go_enter Tryz.func9, Tryz.ntmps9
    go_wp2_with fail
    refine HPC.out.mono ?_
    rintro e w1 ⟨rfl, hw⟩
    subst hw
    go_wp2_with fail
    go_ret2
    exact ⟨.inr ⟨HNE.out, rfl⟩, Below.refl _ _⟩

end Go.Proofs.YteenfcmnmenigaaGreatDoor

namespace Go.Proofs.YteenfcmnmenigaaGreatDoor
open Go.Proofs Go.RowKit Go.Lib

def ordE (l : List Nat) : Nat → Int
  | 0 => 0
  | k + 1 => if ordE l k ≠ 0 then ordE l k else if l[k]?.getD 0 = 0 then 17 else if k ≠ 0 ∧ l[k]?.getD 0 ≤ l[k - 1]?.getD 0 then 6 else 0
theorem ordE_stop {l : List Nat} {k : Nat} (h : ordE l k ≠ 0) : ∀ n, k ≤ n → ordE l n = ordE l k
  | 0, hn => by obtain rfl : k = 0 := by omega
                rfl
  | n + 1, hn => by
    by_cases e : k = n + 1
    · subst e; rfl
    · have ih := ordE_stop h n (by omega)
      rw [ordE, if_pos (by rw [ih]; exact h), ih]
theorem ordE_zero {l : List Nat} {k : Nat} (h0 : ordE l k = 0) (h : l[k]?.getD 0 = 0) : ordE l (k + 1) = 17 := by
  rw [ordE, if_neg (by rw [h0]; decide), if_pos h]
theorem ordE_less {l : List Nat} {k : Nat} (h0 : ordE l k = 0) (h : l[k]?.getD 0 ≠ 0) (hk : k ≠ 0 ∧ l[k]?.getD 0 ≤ l[k - 1]?.getD 0) : ordE l (k + 1) = 6 := by
  rw [ordE, if_neg (by rw [h0]; decide), if_neg h, if_pos hk]
theorem ordE_next {l : List Nat} {k : Nat} (h0 : ordE l k = 0) (h : l[k]?.getD 0 ≠ 0) (hk : ¬ (k ≠ 0 ∧ l[k]?.getD 0 ≤ l[k - 1]?.getD 0)) : ordE l (k + 1) = 0 := by
  rw [ordE, if_neg (by rw [h0]; decide), if_neg h, if_neg hk]
theorem ordE_pos {l : List Nat} : ∀ k, ordE l k = 0 → ∀ j, j < k → l[j]?.getD 0 ≠ 0
  | 0, _, j, hj => by omega
  | k + 1, h, j, hj => by
    by_cases h0 : ordE l k = 0
    · by_cases e : j = k
      · subst e
        intro h1
        rw [ordE_zero h0 h1] at h; exact absurd h (by decide)
      · exact ordE_pos k h0 j (by omega)
    · rw [ordE, if_pos h0] at h; exact absurd h h0

/-- The fraction of two numbers over a list. -/
def facB (p : List Int) (d n : Nat) : Bool := smB p (n / Nat.gcd n d) (d / Nat.gcd n d)
def facR (p : List Int) (d n : Nat) : List Int := expsTo p (n / Nat.gcd n d) (d / Nat.gcd n d) p.length
def facL (p : List Int) (l : List Nat) (k : Nat) : List (List Int) := (l.take k).map (facR p (l[0]?.getD 0))
def parL (p : List Int) (l : List Nat) : Int := if ordE l l.length ≠ 0 then ordE l l.length else if l.all (facB p (l[0]?.getD 0)) then 0 else 25
def parErr (p : List Int) (s : List UInt8) : Int := if primeErr p ≠ 0 then primeErr p else match readL s with | none => 15 | some l => parL p l
def parRows (p : List Int) (s : List UInt8) : List (List Int) := match readL s with | none => [] | some l => facL p l l.length
theorem facL_len {p : List Int} {l : List Nat} {k : Nat} (h : k ≤ l.length) : (facL p l k).length = k := by unfold facL; rw [List.length_map, List.length_take]; omega
theorem facL_next {p : List Int} {l : List Nat} {k : Nat} (h : k < l.length) : facL p l (k + 1) = facL p l k ++ [facR p (l[0]?.getD 0) l[k]] := by
  unfold facL
  rw [← List.take_append_getElem h, List.map_append]
  rfl
theorem low_nat {n d : Nat} : lowN (n : Int) (d : Int) = ((n / Nat.gcd n d : Nat) : Int) ∧ lowD (n : Int) (d : Int) = ((d / Nat.gcd n d : Nat) : Int) := by
  unfold lowN lowD
  rw [Int.natAbs_natCast, Int.natAbs_natCast]
  exact ⟨by omega, by omega⟩
theorem low_ok {n d : Nat} (hn : 0 < n) (hd : 0 < d) : 0 < n / Nat.gcd n d ∧ 0 < d / Nat.gcd n d ∧ Nat.gcd (n / Nat.gcd n d) (d / Nat.gcd n d) = 1 ∧ n / Nat.gcd n d ≤ n ∧ d / Nat.gcd n d ≤ d := by
  have hg : 0 < Nat.gcd n d := Nat.gcd_pos_of_pos_left _ hn
  exact ⟨Nat.div_pos (Nat.le_of_dvd hn (Nat.gcd_dvd_left _ _)) hg, Nat.div_pos (Nat.le_of_dvd hd (Nat.gcd_dvd_right _ _)) hg, Nat.gcd_div_gcd_div_gcd_of_pos_left hn, Nat.div_le_self _ _, Nat.div_le_self _ _⟩

/-- The numbers that read returns. -/
theorem readL_some {s : List UInt8} {ns : List Nat} (h : readL s = some ns) : 0 < ns.length ∧ ns.length ≤ 12 ∧ ∀ n ∈ ns, n ≤ 999999999 := by
  unfold readL at h
  split at h
  · cases h
  split at h
  · cases h
  rename_i h1 h2
  unfold rdAll at h
  split at h
  · rename_i h3
    cases h
    have hl := cutAll_len 58 s
    refine ⟨by rw [List.length_map]; exact List.length_pos_iff.2 (cutAll_ne 58 s), by rw [List.length_map]; omega, fun n hn => ?_⟩
    obtain ⟨x, hx, rfl⟩ := List.mem_map.1 hn
    have h4 := List.all_eq_true.1 h3 x hx
    unfold rdVal
    cases h5 : rdNum x with
    | none => exact Nat.zero_le _
    | some m => exact rdNum_lt h5
  · cases h

/-- fraction.Of, then prime.Factor. -/
theorem fracOf_nat (n d : Nat) (w : World) (hS : Std w) (hn : n ≤ 999999999) (hd : d ≤ 999999999) (hd0 : 0 < d) :
    Calls Tryz.prog 53 #[.int .i64 n, .int .i64 d] w fun e w' => e = .returned (.tuple #[.agg #[.string ⟨(decDigits (n / Nat.gcd n d)).toArray⟩, .string ⟨(decDigits (d / Nat.gcd n d)).toArray⟩], .int .i64 0]) ∧ Below w.heap.size w w' := by
  have h := fracOf_any (n : Int) (d : Int) w hS (by omega) (by omega) (by omega)
  rw [low_nat.1, low_nat.2, itoa_nat, itoa_nat] at h
  exact h

end Go.Proofs.YteenfcmnmenigaaGreatDoor

namespace Go.Proofs.YteenfcmnmenigaaGreatDoor
open Go.Proofs Go.RowKit Go.Lib

theorem ints_get {l : List Nat} {k : Nat} : (l.map Int.ofNat)[k]?.getD 0 = ((l[k]?.getD 0 : Nat) : Int) := by
  rw [List.getElem?_map]
  cases l[k]? <;> rfl

theorem ints_pl {w : World} {B n k : Nat} {A : Option Addr} {l : List Int} (h : Row w B 1 A n (is l)) (hk : k < n) : ∃ b o, A = some ⟨b, o, Option.none⟩ ∧ b < B ∧ w.cell? ⟨b, o + k, Option.none⟩ = some (.int .i64 (l[k]?.getD 0)) := by
  obtain ⟨ad, rfl, _, h0⟩ := h.i_at (k := 0) (by omega)
  rw [show ad.add 0 = ad by unfold Addr.add; simp] at h0
  obtain ⟨b, o, rfl⟩ := addr_plain h0
  obtain ⟨ad, e, h1, h2⟩ := h.i_at hk
  cases e
  rw [Lib.add_plain] at h2
  exact ⟨b, o, rfl, h1, h2⟩

set_option maxRecDepth 100000 in
set_option maxHeartbeats 4000000 in
theorem chParse_any (pv : Value) (p : List Int) (s : List UInt8) (m : Int) (w : World) (hS : Std w) (hp : IsRow w w.heap.size pv p) (hm : w.cell? ⟨2, 0, Option.none⟩ = some (.int .i64 m)) (hs : s.length ≤ 100000) :
    Calls Tryz.prog 22 #[pv, .string ⟨s.toArray⟩] w fun e w' => RowsPost (parErr p s) (parRows p s) w.heap.size e w' ∧ Below w.heap.size w w' := by
  obtain ⟨i0, hi0, hz0, hz1, hz2⟩ := info_parts Tryz.info_row
  have HPC := Lib.hid (primeCheck_any pv p _ w hp)
  have HRD := Lib.hid (chRead_any s m w hS hm hs)
  have HU : Hid (parErr p s = if primeErr p ≠ 0 then primeErr p else match readL s with | none => 15 | some l => parL p l) := Lib.hid rfl
  have HV : Hid (parRows p s = match readL s with | none => [] | some l => facL p l l.length) := Lib.hid rfl
  generalize parErr p s = V at *
  generalize parRows p s = R at *
  have HS := Lib.hid hS
  have HP := Lib.hid hp
  obtain ⟨AP, cp, rfl⟩ := hp.shape
  clear hS hp
  by_cases hpe : primeErr p = 0
  case neg =>
    rw [if_pos hpe] at HU
    obtain rfl := HU.out
    have hne : (primeErr p != 0) = true := by simpa using hpe
    have HNE := Lib.hid hpe
    clear hpe HRD HU HV
    generalize primeErr p = z at *
    go_enter Tryz.func22, Tryz.ntmps22
    go_wp2_with fail
    refine HPC.out.mono ?_
    rintro e w1 ⟨rfl, hw⟩
    subst hw
    go_wp2_with fail
    go_ret2
    exact ⟨.inr ⟨HNE.out, rfl⟩, Below.refl _ _⟩
  rw [if_neg (by rw [hpe]; decide)] at HU
  rw [hpe] at HPC
  have HP0 := Lib.hid hpe
  clear hpe
  go_enter Tryz.func22, Tryz.ntmps22
  go_wp2_with fail
  refine HPC.out.mono ?_
  rintro e w1 ⟨rfl, hw⟩
  subst hw
  go_wp2_with fail
  refine HRD.out.mono ?_
  rintro e w1 ⟨hpo, hb1⟩
  rcases hpo with ⟨l, hl, v, rfl, hor⟩ | ⟨hl, A, n, c, rfl⟩
  case inr =>
    rw [hl] at HU
    obtain rfl := HU.out
    clear hl HV HU
    go_wp2_with fail
    go_ret2
    exact ⟨.inr ⟨by decide, rfl⟩, hb1⟩
  obtain ⟨hl0, hl12, hlb⟩ := readL_some hl
  rw [hl] at HU HV
  clear hl HRD
  have HU2 : Hid (V = parL p l) := Lib.hid HU.out
  have HV2 : Hid (R = facL p l l.length) := Lib.hid HV.out
  obtain ⟨d0, hd0⟩ : ∃ d0, d0 = l[0]?.getD 0 := ⟨_, rfl⟩
  have HD0 := Lib.hid hd0
  have HPL : Hid (parL p l = if ordE l l.length ≠ 0 then ordE l l.length else if l.all (facB p d0) then 0 else 25) := Lib.hid (by rw [hd0]; rfl)
  clear hd0
  generalize parL p l = V2 at *
  clear HU HV
  have HLB : Box (∀ k, l[k]?.getD 0 ≤ 999999999) := ⟨fun k => by
    by_cases hk : k < l.length
    · rw [List.getElem?_eq_getElem hk]; exact hlb _ (List.getElem_mem hk)
    · rw [List.getElem?_eq_none (by omega)]; exact Nat.zero_le _⟩
  have HIS := Lib.hid hor.row
  obtain ⟨A1, c1, e1⟩ := hor.shape
  rw [List.length_map] at e1
  subst e1
  have HB1 := Lib.hid hb1
  clear hor hb1 hlb
  go_wp2_with fail
  go_loopw [31] (fun i wr => ∃ (k : Nat), k ≤ l.length ∧ i = .int .i64 k ∧ Box (ordE l k = 0) ∧ Below w1.heap.size w1 wr) (fun i _ => l.length - (intOf i).toNat)
  case atStart => exact ⟨0, Nat.zero_le _, rfl, ⟨rfl⟩, Below.refl _ _⟩
  case round =>
    obtain ⟨k, hk, rfl, HF, hbw⟩ := hrel
    by_cases hlt : k < l.length
    · obtain ⟨_, _, e9, _, _, hr9⟩ := HIS.out
      injection e9 with e91 e92 e93
      subst e91 e93
      clear e92
      obtain ⟨b, o, rfl, had, hc⟩ := ints_pl hr9 (k := k) (by rw [List.length_map]; exact hlt)
      rw [ints_get] at hc
      have hck := (hbw.cell (p := ⟨b, o + k, Option.none⟩) had).trans hc
      have HLK := HLB.out k
      by_cases hz : l[k]?.getD 0 = 0
      · have HN : Hid (V = 17) := Lib.hid (by
          have h1 := ordE_zero HF.out hz
          rw [HU2.out, HPL.out, if_pos (by rw [ordE_stop (k := k + 1) (by rw [h1]; decide) _ (by omega), h1]; decide), ordE_stop (k := k + 1) (by rw [h1]; decide) _ (by omega), h1])
        rw [hz] at hck
        clear hr9 hc HLK hz
        go_wp2_with fail
        go_ret2
        exact ⟨.inr ⟨by rw [HN.out]; decide, by rw [HN.out]; rfl⟩, HB1.out.trans (hbw.mono HB1.out.size)⟩
      · cases k with
        | zero =>
          have HN : Box (ordE l 1 = 0) := ⟨ordE_next HF.out hz (fun h => h.1 rfl)⟩
          rw [Nat.add_zero] at hck
          clear hr9 hc
          generalize l[0]?.getD 0 = x at *
          go_wp2_with fail
          go_roundw
          case rel => exact ⟨1, by omega, by go_num, HN, hbw⟩
          case measure => simp [intOf]; omega
        | succ k =>
          obtain ⟨b', o', e8, had0, hc0⟩ := ints_pl hr9 (k := k) (by rw [List.length_map]; omega)
          cases e8
          rw [ints_get] at hc0
          have hck0 := (hbw.cell (p := ⟨b, o + k, Option.none⟩) had0).trans hc0
          have hw1 : IntKind.i64.wrap (((k + 1 : Nat) : Int) - 1) = (k : Int) := by rw [show ((k + 1 : Nat) : Int) - 1 = (k : Int) by omega]; exact IntWalk.i64_in _ (by omega)
          have hw0 : IntKind.i64.wrap (k : Int) = (k : Int) := IntWalk.i64_in _ (by omega)
          have HLK0 := HLB.out k
          by_cases hle : l[k + 1]?.getD 0 ≤ l[k]?.getD 0
          · have HN : Hid (V = 6) := Lib.hid (by
              have h1 := ordE_less HF.out hz ⟨by omega, hle⟩
              rw [HU2.out, HPL.out, if_pos (by rw [ordE_stop (k := k + 1 + 1) (by rw [h1]; decide) _ (by omega), h1]; decide), ordE_stop (k := k + 1 + 1) (by rw [h1]; decide) _ (by omega), h1])
            clear hr9 hc hc0
            generalize l[k + 1]?.getD 0 = x at *
            generalize l[k]?.getD 0 = y at *
            go_wp2_with fail
            go_ret2
            exact ⟨.inr ⟨by rw [HN.out]; decide, by rw [HN.out]; rfl⟩, HB1.out.trans (hbw.mono HB1.out.size)⟩
          · have HN : Box (ordE l (k + 2) = 0) := ⟨ordE_next HF.out hz (fun h => hle h.2)⟩
            clear hr9 hc hc0
            generalize l[k + 1]?.getD 0 = x at *
            generalize l[k]?.getD 0 = y at *
            go_wp2_with fail
            go_roundw
            case rel => exact ⟨k + 2, by omega, by go_num, HN, hbw⟩
            case measure => simp [intOf]; omega
    · obtain rfl : k = l.length := by omega
      have HOE := Lib.hid HF.out
      have HPOS := Lib.hid (ordE_pos _ HF.out)
      rw [HOE.out, if_neg (by decide)] at HPL
      clear HF HOE
      have HBW := Lib.hid hbw
      clear hbw
      rename World => W1
      go_wp2_with fail
      go_loopw [11, 52] (fun o i w2 => ∃ (k : Nat), k ≤ l.length ∧ i = .int .i64 k ∧ Box (∀ j, j < k → facB p d0 (l[j]?.getD 0) = true) ∧ LRow w2 W1.heap.size o (facL p l k) ∧ Below W1.heap.size W1 w2) (fun _ i _ => l.length - (intOf i).toNat)
      case atStart => exact ⟨0, Nat.zero_le _, rfl, ⟨fun j h => by omega⟩, LRow.nil _ _, Below.refl _ _⟩
      case round =>
        obtain ⟨k, hk, rfl, HD, hlr, hbx⟩ := hrel
        by_cases hlt : k < l.length
        · obtain ⟨_, _, e9, _, _, hr9⟩ := HIS.out
          injection e9 with e91 e92 e93
          subst e91 e93
          clear e92
          obtain ⟨b, o, rfl, had, hc⟩ := ints_pl hr9 (k := k) (by rw [List.length_map]; exact hlt)
          obtain ⟨b', o', e8, had0, hc0⟩ := ints_pl hr9 (k := 0) (by rw [List.length_map]; exact hl0)
          cases e8
          rw [ints_get] at hc hc0
          rw [Nat.add_zero] at hc0
          have hbq := HBW.out.trans (hbx.mono HBW.out.size)
          rw [← HD0.out] at hc0
          have hck := (hbq.cell (p := ⟨b, o + k, Option.none⟩) had).trans hc
          have hck0 := (hbq.cell (p := ⟨b, o, Option.none⟩) had0).trans hc0
          have HBX := Lib.hid (HB1.out.trans (hbq.mono HB1.out.size))
          have hnk := HPOS.out k hlt
          have hn0 := HPOS.out 0 hl0
          rw [← HD0.out] at hn0
          have hgk : l[k]?.getD 0 = l[k] := by rw [List.getElem?_eq_getElem hlt]; rfl
          have HNX : Hid (facL p l (k + 1) = facL p l k ++ [facR p d0 (l[k]?.getD 0)]) := Lib.hid (by rw [facL_next hlt, hgk, HD0.out])
          have HLN := Lib.hid (facL_len (p := p) hk)
          have HAL : Hid (facB p d0 (l[k]?.getD 0) = false → V = 25) := Lib.hid (fun h => by
            rw [HU2.out, HPL.out, if_neg]
            intro hc
            have := List.all_eq_true.1 hc l[k] (List.getElem_mem hlt)
            rw [← hgk, h] at this
            exact absurd this (by decide))
          have hbd0 := HLB.out 0
          rw [← HD0.out] at hbd0
          have hbdk := HLB.out k
          clear hgk hc hc0 hr9 hbq
          have HFR := Lib.hid (fun W hW => fracOf_nat (l[k]?.getD 0) d0 W hW hbdk hbd0 (by omega))
          obtain ⟨lo1, lo2, lo3, lo4, lo5⟩ := low_ok (n := l[k]?.getD 0) (d := d0) (by omega) (by omega)
          have HFA := Lib.hid (fun W hW hq => primeFactorQ (.slice AP p.length cp) p (l[k]?.getD 0 / Nat.gcd (l[k]?.getD 0) d0) (d0 / Nat.gcd (l[k]?.getD 0) d0) W hW hq HP0.out (by omega) (by omega) lo1 lo2 lo3)
          have HFB : Hid (smB p (l[k]?.getD 0 / Nat.gcd (l[k]?.getD 0) d0) (d0 / Nat.gcd (l[k]?.getD 0) d0) = facB p d0 (l[k]?.getD 0)) := Lib.hid rfl
          have HFX : Hid (expsTo p (l[k]?.getD 0 / Nat.gcd (l[k]?.getD 0) d0) (d0 / Nat.gcd (l[k]?.getD 0) d0) p.length = facR p d0 (l[k]?.getD 0)) := Lib.hid rfl
          have HDN : Hid (facB p d0 (l[k]?.getD 0) = true → ∀ j, j < k + 1 → facB p d0 (l[j]?.getD 0) = true) := Lib.hid (fun h j hj => by
            by_cases e : j = k
            · subst e; exact h
            · exact HD.out j (by omega))
          clear lo1 lo2 lo3 lo4 lo5 hbd0 hbdk hnk hn0 HD
          generalize l[k]?.getD 0 = x at *
          have HLR := Lib.hid hlr
          have HB := Lib.hid hbx
          clear hlr hbx
          go_wp2_with fail
          refine (HFR.out _ (HS.out.below HBX.out (Nat.le_refl _))).mono ?_
          rintro e w3 ⟨rfl, hb3⟩
          have HB3 := Lib.hid (HB.out.trans (hb3.mono HB.out.size))
          have HBX3 := Lib.hid (HBX.out.trans (hb3.mono HBX.out.size))
          have HLR3 := Lib.hid (HLR.out.below hb3)
          have hal : Below w3.heap.size w3 (w3.alloc (.cells #[.string ⟨(decDigits (x / Nat.gcd x d0)).toArray⟩, .string ⟨(decDigits (d0 / Nat.gcd x d0)).toArray⟩] 72)) := (Below.refl _ _).alloc (Nat.le_refl _) _
          replace HB3 := Lib.hid (HB3.out.trans (hal.mono HB3.out.size))
          replace HBX3 := Lib.hid (HBX3.out.trans (hal.mono HBX3.out.size))
          replace HLR3 := Lib.hid (HLR3.out.below hal)
          clear hb3 HLR HFR hal
          go_wp2_with fail
          refine (HFA.out _ (HS.out.below HBX3.out (Nat.le_refl _)) (HP.out.lift HBX3.out)).mono ?_
          rintro e w4 ⟨hpo, hb4⟩
          have HB4 := Lib.hid (HB3.out.trans (hb4.mono HB3.out.size))
          have HBX4 := Lib.hid (HBX3.out.trans (hb4.mono HBX3.out.size))
          have HLR4 := Lib.hid (HLR3.out.below hb4)
          clear hb4 HLR3 HFA HB3 HBX3 HB HBX
          rcases hpo with ⟨hsm, u, rfl, hor⟩ | ⟨hsm, rfl⟩
          · have HDX := Lib.hid (HDN.out (HFB.out ▸ hsm))
            rw [HFX.out] at hor
            have HOR := Lib.hid hor
            obtain ⟨AD, cd, rfl⟩ := hor.shape
            obtain ⟨vs, hown, hvs⟩ := HLR4.out
            rw [HLN.out] at hown
            have HO := Lib.hid hown
            have HVS := Lib.hid hvs
            have hwk : W1.heap.size ≤ w4.heap.size := HB4.out.size
            clear hor hown hvs hsm
            go_wp2_with (at_builtin; refine wpList_append_own _ rfl _ _ _ rfl W1.heap.size 31 i0 (.slice Option.none 0 0) 1 24 Tryz.underlying24 hi0 hz0 hz1 hz2 rfl (by decide) _ _ _ rfl (HO.out.alloc _) ⟨w4.heap.size, 0, Option.none⟩ 1 1 [_] rfl rfl (cell_one_new _ _ _) (by intro u hu; simp at hu; subst hu; rfl) (by unfold maxLen; omega) (by omega) (by simp; omega) ?_; intro v9 w9 hown9 hg9 _)
            go_roundw
            case rel =>
              refine ⟨k + 1, by omega, by go_num, ⟨HDX.out⟩, ?_, (HB4.out.alloc hwk _).grown hg9 (by simp; omega) (fun k hk => (HO.out.lt k hk).1)⟩
              rw [HNX.out]
              have hO := HO.out
              rw [← HLN.out] at hO hown9
              exact LRow.snoc (hO.alloc _) (fun j y hj => by obtain ⟨u, h1, h2⟩ := HVS.out j y hj; exact ⟨u, h1, h2.alloc _⟩) (HOR.out.alloc _) hown9 hg9
            case measure => simp [intOf]; omega
          · have HN := Lib.hid (HAL.out (HFB.out ▸ hsm))
            clear hsm
            go_wp2_with fail
            go_ret2
            exact ⟨.inr ⟨by rw [HN.out]; decide, by rw [HN.out]; rfl⟩, HBX4.out⟩
        · obtain rfl : k = l.length := by omega
          have HN : Hid (V = 0) := Lib.hid (by
            rw [HU2.out, HPL.out, if_pos]
            refine List.all_eq_true.2 fun x hx => ?_
            obtain ⟨j, hj, rfl⟩ := List.getElem_of_mem hx
            have h8 := HD.out j hj
            have h9 : l[j]?.getD 0 = l[j] := by rw [List.getElem?_eq_getElem hj]; rfl
            rw [h9] at h8
            exact h8)
          have HLR := Lib.hid hlr
          obtain ⟨A9, c9, rfl⟩ := hlr.shape
          clear hlr HD
          go_wp2_with fail
          go_ret2
          exact ⟨.inl ⟨HN.out, _, rfl, by rw [HV2.out]; exact HLR.out.base (Nat.le_trans HB1.out.size HBW.out.size)⟩, HB1.out.trans ((HBW.out.trans (hbx.mono HBW.out.size)).mono HB1.out.size)⟩

end Go.Proofs.YteenfcmnmenigaaGreatDoor
