/- prime.Factor of a fraction n / d. A sorted slice of the call's own, in general. What slices.CompactFunc leaves of a list of rows: plain. slices.Clone of a list of rows. Storing several cells of one block. Plain words for chords. monzo.Sub of right intervals: the row lies in a block that the call made. The quick quotient decides over the lists of schismalaw39: plain arithmetic. The lists of schismalaw39: the quick quotient of small intervals. Reducing is the same for all intervals that differ by equaves; the inverses. -/
import Derived.Test.YteenfcmnmenigaaGreatDoorGTF
import Derived.Test.YteenfcmnmenigaaGreatDoorGTH
import Derived.Test.YteenfcmnmenigaaGreatDoorGTI
import Derived.Lib.OwnBridge
import Derived.Test.YteenfcmnmenigaaGreatDoorREqG
import Derived.Laws.IdiomCopy
import Derived.Lib.SliceRun
import Derived.Test.YteenfcmnmenigaaGreatDoorGG
import Derived.Test.YteenfcmnmenigaaGreatDoorGTB
import Derived.Test.YteenfcmnmenigaaGreatDoorGTG
namespace Go.Proofs.YteenfcmnmenigaaGreatDoor
open Go.RowKit Go.Lib

theorem dec9d {n : Nat} (h : n ≤ 999999999) : (decDigits n).length ≤ 18 := by
  rw [dec_length]
  have := nDigits_le (u := n) (k := 9) (by omega) (by omega)
  omega

/-- What Factor returns of n / d over a right list. -/
def FacPostQ (p : List Int) (n d : Nat) (e : Ending) (w' : World) : Prop :=
  (smB p n d = true ∧ ∃ v, e = .returned (.tuple #[v, .int .i64 0]) ∧ ORow w' v (expsTo p n d p.length)) ∨ (smB p n d = false ∧ e = .returned (.tuple #[.slice Option.none 0 0, .int .i64 25]))

set_option maxHeartbeats 1000000 in
theorem primeFactorQ (pv : Value) (p : List Int) (n d : Nat) (w : World) (hS : Std w) (hpv : IsRow w w.heap.size pv p) (hp : primeErr p = 0) (hn : n ≤ 999999999) (hd : d ≤ 999999999) (hn0 : 0 < n) (hd0 : 0 < d) (hg : Nat.gcd n d = 1) :
    Calls Tryz.prog 54 #[pv, .agg #[.string ⟨(decDigits n).toArray⟩, .string ⟨(decDigits d).toArray⟩]] w fun e w' => FacPostQ p n d e w' ∧ Below w.heap.size w w' := by
  have hba : Below w.heap.size w (w.alloc (.cells #[.string ⟨(decDigits n).toArray⟩, .string ⟨(decDigits d).toArray⟩] 72)) := (Below.refl _ _).alloc (Nat.le_refl _) _
  have HO := Lib.hid (primeOpen_any pv p n d _ (hS.below hba (Nat.le_refl _)) (hpv.lift hba) (dec9d hn) (dec9d hd) hd0 hg)
  have HF := Lib.hid (fun W hb => factor_any pv p n d W (hS.below (w := w) (B := w.heap.size) hb (Nat.le_refl _)) (hpv.lift hb) hp (dec9d hn) (dec9d hd) hn0 hd0)
  have hsg : sgn (n : Int) = 1 := by unfold sgn; rw [if_neg (by omega), if_neg (by omega)]
  have HSG := Lib.hid (fun W => fracSign_any (n : Int) (decDigits d) W (by rw [itoa_nat]; have := dec9d hn; omega))
  rw [hsg, itoa_nat] at HSG
  have HFR := Lib.hid (fun W v h => far_any v (expsTo p n d p.length) W h)
  rw [small_exps (by omega) (by omega) hn0 hd0] at HFR
  rw [hp] at HO
  have HBA := Lib.hid hba
  have HNC := Lib.hid (Cells.new w 72 #[.string ⟨(decDigits n).toArray⟩, .string ⟨(decDigits d).toArray⟩])
  obtain ⟨AP, cp, rfl⟩ := hpv.shape
  clear hS hpv hp hn hn0 hd hd0 hg hba hsg
  generalize decDigits n = la at *
  generalize decDigits d = lb at *
  go_enter Tryz.func54, Tryz.ntmps54
  go_wp2_with fail
  refine HO.out.mono ?_
  rintro e w1 ⟨rfl, hb1⟩
  have HB1 := Lib.hid (HBA.out.trans (hb1.mono HBA.out.size))
  have hc := HNC.out.below hb1 HNC.out.lt
  have z0 := hc.cell 0
  have z1 := hc.cell 1
  simp at z0 z1
  have HC1 := Lib.hid hc
  clear hb1 hc
  go_wp2_with fail
  refine (HSG.out _).mono ?_
  rintro e w2 ⟨rfl, hb2⟩
  have HB2 := Lib.hid (HB1.out.trans (hb2.mono HB1.out.size))
  have hc := HC1.out.below hb2 HC1.out.lt
  have z0' := hc.cell 0
  have z1' := hc.cell 1
  simp at z0' z1'
  clear hb2 hc z0 z1
  go_wp2_with fail
  refine (HF.out _ HB2.out).mono ?_
  rintro e w3 ⟨⟨v, rfl, hr⟩, hb3⟩
  have HB3 := Lib.hid (HB2.out.trans (hb3.mono HB2.out.size))
  have HFF := Lib.hid (HFR.out _ _ hr.row)
  have HR := Lib.hid hr
  obtain ⟨AV, cv, rfl⟩ := hr.shape
  clear hb3 hr
  by_cases hs : smB p n d = true
  · have HSM := Lib.hid hs
    rw [hs]
    clear hs
    go_wp2_with fail
    refine HFF.out.mono ?_
    rintro e w4 ⟨rfl, hb4⟩
    have HB4 := Lib.hid (HB3.out.trans (hb4.mono HB3.out.size))
    have HR4 := Lib.hid (HR.out.below hb4)
    clear hb4
    go_wp2_with fail
    go_ret2
    exact ⟨.inl ⟨HSM.out, _, rfl, HR4.out⟩, HB4.out⟩
  · have hs2 : smB p n d = false := by simpa using hs
    have HSM := Lib.hid hs2
    rw [hs2]
    clear hs hs2
    go_wp2_with fail
    go_ret2
    exact ⟨.inr ⟨HSM.out, rfl⟩, HB3.out⟩

end Go.Proofs.YteenfcmnmenigaaGreatDoor

namespace Go.Proofs.YteenfcmnmenigaaGreatDoor
open Go.RowKit Go.Lib Go.Shelf

theorem sort_own {α : Type} [Inhabited α] (enc : α → Value) (w : World) (g m c n base : Nat) (zs : List α) (d : Array α) (os : Array Obj) (e : TypeId) (hd : d.size = n) (h : w.ownsRow base e 1 (.slice (some ⟨g, 0, Option.none⟩) n c) n (zs.map enc)) :
    (sortWorld enc w g 0 m d os).ownsRow base e 1 (.slice (some ⟨g, 0, Option.none⟩) n c) n (d.toList.map enc) := by
  have h1 := Lib.ownsRow_putRow (q := m) (ys := d.toList) h (by rw [Array.length_toList]; exact hd) (Nat.le_refl n)
  rw [List.take_of_length_le (by rw [Array.length_toList, hd]; exact Nat.le_refl _), Array.toArray_toList] at h1
  exact own_below h1 (Lib.below_grow _ _ (Nat.le_refl _) 0 os)

end Go.Proofs.YteenfcmnmenigaaGreatDoor

namespace Go.Proofs.YteenfcmnmenigaaGreatDoor
open Go.RowKit Go.Lib

/-- Place j of l is kept: it is the first, or another row than the place before it. -/
def kpt (l : List (List Int)) (j : Nat) : Bool := decide (j = 0 ∨ l[j]?.getD [] ≠ l[j - 1]?.getD [])
def kpI (l : List (List Int)) (m : Nat) : List Nat := (List.range m).filter (kpt l)
def dedup (l : List (List Int)) : List (List Int) := (kpI l l.length).map fun j => l[j]?.getD []

theorem kp_zero (l : List (List Int)) : kpt l 0 = true := by simp [kpt]
theorem kp_same {l : List (List Int)} {j : Nat} (h : l[j + 1]?.getD [] = l[j]?.getD []) : kpt l (j + 1) = false := by simp [kpt, h]
theorem kp_other {l : List (List Int)} {j : Nat} (h : l[j + 1]?.getD [] ≠ l[j]?.getD []) : kpt l (j + 1) = true := by simp [kpt, h]
theorem kpI_succ (l : List (List Int)) (m : Nat) : kpI l (m + 1) = kpI l m ++ (if kpt l m then [m] else []) := by
  unfold kpI
  rw [List.range_succ, List.filter_append]
  congr 1
  by_cases h : kpt l m <;> simp [h]
theorem kpI_all {l : List (List Int)} {m : Nat} (h : ∀ j, j < m → kpt l j = true) : kpI l m = List.range m := by
  unfold kpI
  exact List.filter_eq_self.2 fun j hj => h j (List.mem_range.1 hj)
theorem kpI_lt {l : List (List Int)} {m j : Nat} (h : j ∈ kpI l m) : j < m := List.mem_range.1 (List.mem_filter.1 h).1
theorem kpI_len (l : List (List Int)) (m : Nat) : (kpI l m).length ≤ m := by
  unfold kpI
  have := List.length_filter_le (kpt l) (List.range m)
  rw [List.length_range] at this
  exact this
theorem range_map_getD (l : List (List Int)) : (List.range l.length).map (fun j => l[j]?.getD []) = l := by
  apply List.ext_getElem
  · simp
  · intro i h1 h2
    simp [h2]
theorem dedup_all {l : List (List Int)} (h : ∀ j, j < l.length → kpt l j = true) : dedup l = l := by
  unfold dedup
  rw [kpI_all h, range_map_getD]

/-- m places have been looked at; what is kept of them, kk values, lies at the head; from kk on all is as it was. -/
structure CI (l : List (List Int)) (cur : List Value) (m kk : Nat) (cur' : List Value) : Prop where
  size : cur'.length = cur.length
  len : (kpI l m).length = kk
  lt : kk < m
  low : ∀ (j i : Nat), (kpI l m)[j]? = some i → cur'[j]? = cur[i]?
  high : ∀ (j : Nat), kk ≤ j → cur'[j]? = cur[j]?

theorem CI.start {l : List (List Int)} {cur : List Value} {k : Nat} (h : ∀ j, j < k → kpt l j = true) (hk : kpt l k = false) : CI l cur (k + 1) k cur := by
  have e : kpI l (k + 1) = List.range k := by rw [kpI_succ, kpI_all h, hk]; simp
  refine ⟨rfl, by rw [e, List.length_range], by omega, fun j i hj => ?_, fun _ _ => rfl⟩
  rw [e] at hj
  obtain ⟨h1, h2⟩ := List.getElem?_eq_some_iff.1 hj
  rw [List.getElem_range] at h2
  rw [h2]
theorem CI.skip {l : List (List Int)} {cur cur' : List Value} {m kk : Nat} (h : CI l cur m kk cur') (hm : kpt l m = false) : CI l cur (m + 1) kk cur' := by
  have e : kpI l (m + 1) = kpI l m := by rw [kpI_succ, hm]; simp
  have := h.lt
  exact ⟨h.size, by rw [e]; exact h.len, by omega, by rw [e]; exact h.low, h.high⟩
theorem CI.keep {l : List (List Int)} {cur cur' : List Value} {m kk : Nat} {u : Value} (h : CI l cur m kk cur') (hm : kpt l m = true) (hu : cur[m]? = some u) : CI l cur (m + 1) (kk + 1) (cur'.set kk u) := by
  have e : kpI l (m + 1) = kpI l m ++ [m] := by rw [kpI_succ, hm]; simp
  have hlt := h.lt
  have hml := (List.getElem?_eq_some_iff.1 hu).1
  refine ⟨by rw [List.length_set]; exact h.size, by rw [e, List.length_append, h.len]; rfl, by omega, fun j i hj => ?_, fun j hj => ?_⟩
  · rw [e] at hj
    by_cases hjk : j < kk
    · rw [List.getElem?_append_left (by rw [h.len]; exact hjk)] at hj
      rw [List.getElem?_set_ne (by omega)]
      exact h.low j i hj
    · have hjl := (List.getElem?_eq_some_iff.1 hj).1
      rw [List.length_append, h.len] at hjl
      have hjk2 : j = kk := by simp at hjl; omega
      subst hjk2
      rw [List.getElem?_append_right (by rw [h.len]; exact Nat.le_refl _), h.len, Nat.sub_self] at hj
      cases hj
      rw [List.getElem?_set_self (by rw [h.size]; omega), hu]
  · rw [List.getElem?_set_ne (by omega)]
    exact h.high j (by omega)

/-- Sorted rows, the equal ones taken together: the list of each once, in order. -/
theorem dedup_once {p : List Int} (hP : Primed p) {l l' : List (List Int)} (hl : ∀ x ∈ l, x.length = p.length) (hp : l'.Perm l) (hs : ∀ i j, i < j → j < l'.length → ltR p (l'[j]?.getD []) (l'[i]?.getD []) = false) : dedup l' = onceL p l := by
  have hl' : ∀ x ∈ l', x.length = p.length := fun x hx => hl x (hp.mem_iff.1 hx)
  have hg : ∀ j, j < l'.length → l'[j]?.getD [] ∈ l' := fun j hj => by rw [List.getElem?_eq_getElem hj]; exact List.getElem_mem hj
  have hmem : ∀ x, x ∈ dedup l' ↔ x ∈ l' := by
    intro x
    unfold dedup
    rw [List.mem_map]
    constructor
    · rintro ⟨j, hj, rfl⟩
      exact hg j (kpI_lt hj)
    · intro hx
      obtain ⟨j, hj, rfl⟩ := List.getElem_of_mem hx
      have key : ∀ n j, j ≤ n → (hj : j < l'.length) → ∃ a, a ∈ kpI l' l'.length ∧ l'[a]?.getD [] = l'[j] := by
        intro n
        induction n with
        | zero =>
          intro j h0 hj
          obtain rfl : j = 0 := by omega
          exact ⟨0, List.mem_filter.2 ⟨List.mem_range.2 hj, kp_zero _⟩, by rw [List.getElem?_eq_getElem hj]; rfl⟩
        | succ n ih =>
          intro j h0 hj
          by_cases hk : kpt l' j = true
          · exact ⟨j, List.mem_filter.2 ⟨List.mem_range.2 hj, hk⟩, by rw [List.getElem?_eq_getElem hj]; rfl⟩
          · cases j with
            | zero => exact absurd (kp_zero _) hk
            | succ j =>
              have e : l'[j + 1]?.getD [] = l'[j]?.getD [] := Classical.byContradiction fun h => hk (kp_other h)
              obtain ⟨a, h1, h2⟩ := ih j (by omega) (by omega)
              refine ⟨a, h1, ?_⟩
              rw [List.getElem?_eq_getElem hj, List.getElem?_eq_getElem (show j < l'.length by omega)] at e
              simp at e
              rw [h2, e]
      exact key j j (Nat.le_refl _) hj
  have hadj : ∀ a b, a ≤ b → b < l'.length → ltR p (l'[b]?.getD []) (l'[a]?.getD []) = false := fun a b hab hb => by
    by_cases e : a = b
    · subst e; exact ltR_irr p _
    · exact hs a b (by omega) hb
  have hslt : SLt p (dedup l') := by
    unfold SLt dedup
    rw [List.pairwise_map]
    have hpw : (kpI l' l'.length).Pairwise fun a b => a < b := List.Pairwise.filter _ List.pairwise_lt_range
    have hpw2 : (kpI l' l'.length).Pairwise fun a b => a < b ∧ b ∈ kpI l' l'.length := by
      rw [List.pairwise_iff_getElem] at hpw ⊢
      exact fun i j h1 h2 h3 => ⟨hpw i j h1 h2 h3, List.getElem_mem h2⟩
    refine hpw2.imp ?_
    rintro a b ⟨hab, hb⟩
    have hbl := kpI_lt hb
    cases b with
    | zero => omega
    | succ b =>
      have hkb : l'[b + 1]?.getD [] ≠ l'[b]?.getD [] := by
        have := (List.mem_filter.1 hb).2
        intro e
        rw [kp_same e] at this
        exact absurd this (by decide)
      have h1 := hadj a b (by omega) (by omega)
      have h2 := hadj b (b + 1) (by omega) hbl
      have la := hl' _ (hg a (by omega))
      have lb := hl' _ (hg b (by omega))
      have lc := hl' _ (hg (b + 1) hbl)
      rcases ltR_tot hP lb lc (fun e => hkb e.symm) with h3 | h3
      · by_cases e : l'[a]?.getD [] = l'[b]?.getD []
        · rw [e]; exact h3
        · rcases ltR_tot hP la lb e with h4 | h4
          · exact ltR_trans hP la lc h4 h3
          · rw [h4] at h1; exact absurd h1 (by decide)
      · rw [h3] at h2; exact absurd h2 (by decide)
  obtain ⟨k1, k2⟩ := onceL_slt hP hl
  exact slt_ext hslt k1 fun x => by rw [hmem, k2]; exact hp.mem_iff

end Go.Proofs.YteenfcmnmenigaaGreatDoor

namespace Go.Proofs.YteenfcmnmenigaaGreatDoor
open Go.RowKit Go.Lib

theorem rows_vals {w : World} {p : List Int} {A : Option Addr} {l : List (List Int)} (h : RowsAt w w.heap.size A l) (hc : ∀ x ∈ l, chkAll p [x] = 0) (h0 : 0 < l.length) : ∃ (ad : Addr) (vs : List Value), A = some ad ∧ vs.length = l.length ∧ SRows w p vs l ∧ (∀ (j : Nat) u, vs[j]? = some u → w.cell? (ad.add j) = some u ∧ ad.block < w.heap.size) ∧ (∀ u ∈ vs, ∃ A n c, u = .slice A n c) := by
  obtain ⟨ad, v0, rfl, _⟩ := h.get 0 l[0] (List.getElem?_eq_getElem h0)
  have hex : ∀ j : Fin l.length, ∃ v, w.cell? (ad.add j.1) = some v ∧ ad.block < w.heap.size ∧ IsRow w w.heap.size v l[j.1] := fun j => by
    obtain ⟨ad', v, e, h1, h2, h3⟩ := h.get j.1 l[j.1] (List.getElem?_eq_getElem j.2)
    cases e
    exact ⟨v, h2, h1, h3⟩
  have hvs : ∀ (j : Nat) (hj : j < l.length), (List.ofFn fun j : Fin l.length => Classical.choose (hex j))[j]? = some (Classical.choose (hex ⟨j, hj⟩)) := fun j hj => by
    rw [List.getElem?_eq_getElem (by rw [List.length_ofFn]; exact hj), List.getElem_ofFn]
  refine ⟨ad, List.ofFn fun j : Fin l.length => Classical.choose (hex j), rfl, List.length_ofFn, fun j hj => ?_, fun j u hu => ?_, fun u hu => ?_⟩
  · have h1 := Classical.choose_spec (hex ⟨j, hj⟩)
    exact ⟨⟨(Classical.choose (hex ⟨j, hj⟩), l[j]), h1.2.2, hc _ (List.getElem_mem hj)⟩, hvs j hj, List.getElem?_eq_getElem hj⟩
  · have hj := (List.getElem?_eq_some_iff.1 hu).1
    rw [List.length_ofFn] at hj
    rw [hvs j hj] at hu
    cases hu
    have h1 := Classical.choose_spec (hex ⟨j, hj⟩)
    exact ⟨h1.1, h1.2.1⟩
  · obtain ⟨j, hj, rfl⟩ := List.getElem_of_mem hu
    rw [List.length_ofFn] at hj
    rw [List.getElem_ofFn]
    obtain ⟨A, c, e⟩ := (Classical.choose_spec (hex ⟨j, hj⟩)).2.2.shape
    exact ⟨A, _, c, e⟩

set_option maxRecDepth 100000 in
set_option maxHeartbeats 1000000 in
theorem clone_rows (A : Option Addr) (c : Nat) (p : List Int) (l : List (List Int)) (w : World) (h : RowsAt w w.heap.size A l) (hc : ∀ x ∈ l, chkAll p [x] = 0) (h0 : 0 < l.length) (hx : l.length ≤ 1000) :
    Calls Tryz.prog 39 #[.slice A l.length c] w fun e w' => (∃ g c vs, e = .returned (.slice (some ⟨g, 0, Option.none⟩) l.length c) ∧ w'.ownsRow w.heap.size 31 1 (.slice (some ⟨g, 0, Option.none⟩) l.length c) l.length vs ∧ SRows w p vs l) ∧ Below w.heap.size w w' := by
  obtain ⟨i0, hi0, hz0, hz1, hz2⟩ := info_parts Tryz.info_row
  obtain ⟨ad, vs, rfl, hvl, hsr, hcs, hsl⟩ := rows_vals h hc h0
  have hE := fun W => Lib.run_eql_slice_nil (P := Tryz.prog) W 24 31 (some ad) l.length c 0 0 Tryz.underlying24
  have hcells : ∀ (j : Nat) u, vs[j]? = some u → (w.alloc (.cells #[] 31)).cell? (ad.add j) = some u := fun j u hu =>
    keep_cell (hcs j u hu).1 ((Below.refl w.heap.size w).alloc (Nat.le_refl _) _)
  have hown : (w.alloc (.cells #[] 31)).ownsRow w.heap.size 31 1 (.slice (some ⟨w.heap.size, 0, Option.none⟩) 0 0) 0 [] := Cells.own (k := 0) (Cells.new w 31 #[]) (Nat.le_refl _) rfl (Nat.zero_le _) (Nat.le_refl _)
  have HO := Lib.hid hown
  have HC := Lib.hid hcells
  have H0 : Box (0 < l.length) := ⟨h0⟩
  have HSR : Box (SRows w p vs l) := ⟨hsr⟩
  have HSL := Lib.hid hsl
  have HVL := Lib.hid hvl
  clear hown hcells h h0 hc hcs hsr hsl hvl
  go_enter Tryz.func39, Tryz.ntmps39
  go_wp2_with (at_builtin; refine wpList_append_own _ rfl _ _ _ rfl w.heap.size 31 i0 (.slice Option.none 0 0) 1 24 Tryz.underlying24 hi0 hz0 hz1 hz2 rfl (by decide) _ _ _ rfl HO.out ad l.length c vs rfl (by rw [HVL.out, Nat.mul_one]) HC.out (by intro u hu; obtain ⟨A1, n1, c1, rfl⟩ := HSL.out u hu; rfl) (by unfold maxLen; omega) (by omega) (by simp) ?_; intro v3 w3 hown3 hg3 _)
  rw [List.nil_append, Nat.zero_add] at hown3
  have hbw : Below w.heap.size w w3 := ((Below.refl w.heap.size w).alloc (Nat.le_refl _) (.cells #[] 31)).grown hg3 (by simp) (fun k hk => (HO.out.lt k hk).1)
  have hsh : ∃ g c, v3 = .slice (some ⟨g, 0, Option.none⟩) l.length c := by
    rcases hown3.2 with ⟨_, h⟩ | ⟨g, cap, cur, hv, _⟩
    · have := H0.out; omega
    · exact ⟨g, cap, hv⟩
  obtain ⟨g, c3, rfl⟩ := hsh
  go_wp2_with fail
  go_ret
  exact ⟨⟨_, _, vs, rfl, hown3, HSR.out⟩, hbw⟩

end Go.Proofs.YteenfcmnmenigaaGreatDoor

namespace Go.Proofs.YteenfcmnmenigaaGreatDoor
open Go.RowKit Go.Lib

theorem Cells.puts {g : Nat} {e : TypeId} : ∀ (vs : List Value) {w : World} {xs : List Value} (o : Nat), Cells w g e xs → ∃ ys : List Value, Cells (w.setCells g o vs) g e ys ∧ ys.length = xs.length ∧ ∀ j, j < o → ys[j]? = xs[j]?
  | [], _, xs, _, h => ⟨xs, h, rfl, fun _ _ => rfl⟩
  | v :: vs, w, xs, o, h => by
    obtain ⟨ys, h1, h2, h3⟩ := Cells.puts vs (o + 1) (h.set o v)
    refine ⟨ys, h1, by rw [h2, List.length_set], fun j hj => ?_⟩
    rw [h3 j (by omega), List.getElem?_set_ne (by omega)]
theorem below_puts {B g : Nat} (hg : B ≤ g) {w0 : World} : ∀ (vs : List Value) {w : World} (o : Nat), Below B w0 w → Below B w0 (w.setCells g o vs)
  | [], _, _, h => h
  | v :: vs, _, o, h => below_puts hg vs (o + 1) (h.setCell hg v)

theorem own_parts {w : World} {base g n c : Nat} {e : TypeId} {vs : List Value} (h : w.ownsRow base e 1 (.slice (some ⟨g, 0, Option.none⟩) n c) n vs) : ∃ cs : List Value, Cells w g e cs ∧ base ≤ g ∧ n ≤ c ∧ c ≤ maxLen ∧ cs.length = c ∧ cs.take n = vs := by
  rcases h.2 with ⟨e, _⟩ | ⟨g', cap, cur, e, h1, h2, h3, h4, h5, h6⟩
  · cases e
  · cases e
    exact ⟨cur.toList, h2, h1, h3, h4, by rw [Array.length_toList]; omega, by rw [← h6, Nat.mul_one]⟩
theorem own_of {w : World} {base g n c : Nat} {e : TypeId} {cs : List Value} (h : Cells w g e cs) (hb : base ≤ g) (hn : n ≤ c) (hc : c ≤ maxLen) (hl : cs.length = c) : w.ownsRow base e 1 (.slice (some ⟨g, 0, Option.none⟩) n c) n (cs.take n) :=
  ⟨by rw [List.length_take]; omega, .inr ⟨g, c, cs.toArray, rfl, hb, h, hn, hc, by simp [hl], by simp⟩⟩
theorem own_set {w : World} {base g n c k : Nat} {e : TypeId} {vs : List Value} (h : w.ownsRow base e 1 (.slice (some ⟨g, 0, Option.none⟩) n c) n vs) (u : Value) : (w.setCell ⟨g, k, Option.none⟩ u).ownsRow base e 1 (.slice (some ⟨g, 0, Option.none⟩) n c) n (vs.set k u) := by
  obtain ⟨cs, h1, h2, h3, h4, h5, h6⟩ := own_parts h
  have h7 := own_of (n := n) (h1.set k u) h2 h3 h4 (by rw [List.length_set]; exact h5)
  rw [← h6, ← List.take_set]
  exact h7
theorem LRow.base {w : World} {b b' : Nat} {v : Value} {l : List (List Int)} (h : LRow w b v l) (hb : b' ≤ b) : LRow w b' v l := by
  obtain ⟨vs, h1, h2⟩ := h
  exact ⟨vs, own_base h1 hb, h2⟩

theorem SRows.len {w : World} {p : List Int} {vs : List Value} {l : List (List Int)} (h : SRows w p vs l) {j : Nat} (hj : j < l.length) : ∃ (v : Value) (x : List Int), vs[j]? = some v ∧ l[j]? = some x ∧ IsRow w w.heap.size v x ∧ chkAll p [x] = 0 := by
  obtain ⟨t, h1, h2⟩ := h j hj
  exact ⟨_, _, h1, h2, t.2.1, t.2.2⟩
theorem sameB_eq {x y : List Int} : sameB x y = decide (x = y) := rfl

/-- What stands at the head of the block behind the compaction. -/
theorem ci_rows {w0 : World} {p : List Int} {vs cs cs' : List Value} {l : List (List Int)} {kk n : Nat} (hsr : SRows w0 p vs l) (hn : n = l.length) (ht : cs.take n = vs) (h : CI l cs n kk cs') (hle : n ≤ cs.length) : (dedup l).length = kk ∧ SRows w0 p (cs'.take kk) (dedup l) := by
  subst hn
  have hlen : (dedup l).length = kk := by unfold dedup; rw [List.length_map]; exact h.len
  refine ⟨hlen, fun j hj => ?_⟩
  rw [hlen] at hj
  have hjk : j < (kpI l l.length).length := by rw [h.len]; exact hj
  have hi := kpI_lt (List.getElem_mem hjk)
  obtain ⟨t, h1, h2⟩ := hsr _ hi
  have h3 := h.low j _ (List.getElem?_eq_getElem hjk)
  refine ⟨t, ?_, ?_⟩
  · rw [List.getElem?_take_of_lt hj, h3, ← h1, ← ht, List.getElem?_take_of_lt hi]
  · unfold dedup
    rw [List.getElem?_map, List.getElem?_eq_getElem hjk, Option.map_some, h2]
    rfl

end Go.Proofs.YteenfcmnmenigaaGreatDoor

namespace Go.Proofs.YteenfcmnmenigaaGreatDoor
open Go.RowKit Go.Lib

/-- The error of the first k notes. -/
def chFrom (p : List Int) (c : List (List Int)) : Nat → Int
  | 0 => 0
  | k + 1 => if chFrom p c k ≠ 0 then chFrom p c k else if chkAll p [c[k]?.getD []] ≠ 0 then chkAll p [c[k]?.getD []] else if k = 0 then 0 else if ltR p (c[k - 1]?.getD []) (c[k]?.getD []) then 0 else 6
/-- The error of a chord. -/
def chErr (p : List Int) (c : List (List Int)) : Int := if primeErr p ≠ 0 then primeErr p else if c.length = 0 then 13 else if 12 < c.length then 4 else chFrom p c c.length

theorem chFrom_stop {p : List Int} {c : List (List Int)} {k : Nat} (h : chFrom p c k ≠ 0) : ∀ n, k ≤ n → chFrom p c n = chFrom p c k
  | 0, hn => by obtain rfl : k = 0 := by omega
                rfl
  | n + 1, hn => by
    by_cases e : k = n + 1
    · subst e; rfl
    · have ih := chFrom_stop h n (by omega)
      rw [chFrom, if_pos (by rw [ih]; exact h), ih]
theorem chFrom_bad {p : List Int} {c : List (List Int)} {k : Nat} (h0 : chFrom p c k = 0) (h : chkAll p [c[k]?.getD []] ≠ 0) : chFrom p c (k + 1) = chkAll p [c[k]?.getD []] := by
  rw [chFrom, if_neg (by rw [h0]; decide), if_pos h]
theorem chFrom_first {p : List Int} {c : List (List Int)} (h : chkAll p [c[0]?.getD []] = 0) : chFrom p c 1 = 0 := by
  rw [chFrom, if_neg (by rw [chFrom]; decide), if_neg (by rw [h]; decide), if_pos rfl]
theorem chFrom_less {p : List Int} {c : List (List Int)} {k : Nat} (h0 : chFrom p c (k + 1) = 0) (h : chkAll p [c[k + 1]?.getD []] = 0) (hl : ltR p (c[k]?.getD []) (c[k + 1]?.getD []) = true) : chFrom p c (k + 2) = 0 := by
  rw [chFrom, if_neg (by rw [h0]; decide), if_neg (by rw [h]; decide), if_neg (by omega), Nat.add_sub_cancel, if_pos hl]
theorem chFrom_more {p : List Int} {c : List (List Int)} {k : Nat} (h0 : chFrom p c (k + 1) = 0) (h : chkAll p [c[k + 1]?.getD []] = 0) (hl : ltR p (c[k]?.getD []) (c[k + 1]?.getD []) = false) : chFrom p c (k + 2) = 6 := by
  rw [chFrom, if_neg (by rw [h0]; decide), if_neg (by rw [h]; decide), if_neg (by omega), Nat.add_sub_cancel, if_neg (by rw [hl]; decide)]
theorem chFrom_chk {p : List Int} {c : List (List Int)} : ∀ k, chFrom p c k = 0 → ∀ j, j < k → chkAll p [c[j]?.getD []] = 0
  | 0, _, j, hj => by omega
  | k + 1, h, j, hj => by
    by_cases h0 : chFrom p c k = 0
    · by_cases e : j = k
      · subst e
        by_cases h1 : chkAll p [c[j]?.getD []] = 0
        · exact h1
        · rw [chFrom_bad h0 h1] at h; exact absurd h h1
      · exact chFrom_chk k h0 j (by omega)
    · rw [chFrom, if_pos h0] at h; exact absurd h h0
theorem chFrom_lt {p : List Int} {c : List (List Int)} : ∀ k, chFrom p c k = 0 → ∀ j, j + 1 < k → ltR p (c[j]?.getD []) (c[j + 1]?.getD []) = true
  | 0, _, j, hj => by omega
  | k + 1, h, j, hj => by
    by_cases h0 : chFrom p c k = 0
    · by_cases e : j + 1 = k
      · subst e
        by_cases h1 : chkAll p [c[j + 1]?.getD []] = 0
        · cases h2 : ltR p (c[j]?.getD []) (c[j + 1]?.getD [])
          · rw [chFrom_more h0 h1 h2] at h; exact absurd h (by decide)
          · rfl
        · rw [chFrom_bad h0 h1] at h; exact absurd h h1
      · exact chFrom_lt k h0 j (by omega)
    · rw [chFrom, if_pos h0] at h; exact absurd h h0

/-- A right chord. -/
structure ChOk (p : List Int) (c : List (List Int)) : Prop where
  pe : primeErr p = 0
  pos : 0 < c.length
  le : c.length ≤ 12
  chk : ∀ x ∈ c, chkAll p [x] = 0
  slt : SLt p c
theorem adj_slt {p : List Int} (hP : Primed p) : ∀ {c : List (List Int)}, (∀ x ∈ c, x.length = p.length) → (∀ j, j + 1 < c.length → ltR p (c[j]?.getD []) (c[j + 1]?.getD []) = true) → SLt p c
  | [], _, _ => List.Pairwise.nil
  | [x], _, _ => List.pairwise_singleton _ _
  | x :: y :: l, hl, h => by
    have ih : SLt p (y :: l) := adj_slt hP (fun z hz => hl z (List.mem_cons_of_mem _ hz)) fun j hj => by
      have := h (j + 1) (by simp at hj ⊢; omega)
      simpa using this
    refine List.pairwise_cons.2 ⟨fun z hz => ?_, ih⟩
    have hxy : ltR p x y = true := by simpa using h 0 (by simp)
    rcases List.mem_cons.1 hz with rfl | hz
    · exact hxy
    · exact ltR_trans hP (hl x (by simp)) (hl z (by simp [hz])) hxy ((List.pairwise_cons.1 ih).1 z hz)
theorem chOk_of {p : List Int} {c : List (List Int)} (h : chErr p c = 0) : ChOk p c := by
  unfold chErr at h
  split at h
  · rename_i h0; exact absurd h h0
  rename_i h0
  split at h
  · exact absurd h (by decide)
  split at h
  · exact absurd h (by decide)
  rename_i h1 h2
  have hpe : primeErr p = 0 := by simpa using h0
  have hchk : ∀ x ∈ c, chkAll p [x] = 0 := fun x hx => by
    obtain ⟨j, hj, rfl⟩ := List.getElem_of_mem hx
    have := chFrom_chk _ h j hj
    rw [List.getElem?_eq_getElem hj] at this
    exact this
  refine ⟨hpe, by omega, by omega, hchk, adj_slt (primed hpe) (fun x hx => (right_of (hchk x hx)).len) fun j hj => chFrom_lt _ h j hj⟩
theorem slt_adj {p : List Int} {c : List (List Int)} (h : SLt p c) {j : Nat} (hj : j + 1 < c.length) : ltR p (c[j]?.getD []) (c[j + 1]?.getD []) = true := by
  have := (List.pairwise_iff_getElem.1 h) j (j + 1) (by omega) hj (by omega)
  rw [List.getElem?_eq_getElem (by omega), List.getElem?_eq_getElem hj]
  exact this
theorem ChOk.err {p : List Int} {c : List (List Int)} (h : ChOk p c) : chErr p c = 0 := by
  have hpos := h.pos
  have hle := h.le
  unfold chErr
  rw [if_neg (by rw [h.pe]; decide), if_neg (by omega), if_neg (by omega)]
  have hc : ∀ j, j < c.length → chkAll p [c[j]?.getD []] = 0 := fun j hj => by
    rw [List.getElem?_eq_getElem hj]; exact h.chk _ (List.getElem_mem hj)
  have key : ∀ k, k ≤ c.length → chFrom p c k = 0 := by
    intro k
    induction k with
    | zero => intro _; rfl
    | succ k ih =>
      intro hk
      have h0 := ih (by omega)
      cases k with
      | zero => exact chFrom_first (hc 0 (by omega))
      | succ k => exact chFrom_less h0 (hc (k + 1) (by omega)) (slt_adj h.slt (by omega))
  exact key _ (Nat.le_refl _)

/-- The difference of two intervals. -/
def difI (x y : List Int) : List Int := sumTo x y (-1) x.length
theorem difI_len (x y : List Int) : (difI x y).length = x.length := sumTo_len _ _ _ _
theorem difI_get {x y : List Int} {j : Nat} (hj : j < x.length) : (difI x y)[j]?.getD 0 = x[j]?.getD 0 - y[j]?.getD 0 := by
  unfold difI
  rw [sumTo_get x y (-1) j _ hj]
  omega

end Go.Proofs.YteenfcmnmenigaaGreatDoor

namespace Go.Proofs.YteenfcmnmenigaaGreatDoor
open Go.RowKit Go.Lib

/-- The difference, or ErrLimit. -/
def DifPost (p x y : List Int) (e : Ending) (w' : World) : Prop :=
  (chkAll p [difI x y] = 0 ∧ ∃ v, e = .returned (.tuple #[v, .int .i64 0]) ∧ ORow w' v (difI x y)) ∨ (chkAll p [difI x y] ≠ 0 ∧ e = .returned (.tuple #[.slice Option.none 0 0, .int .i64 4]))

theorem DifPost.shape {p x y : List Int} {e : Ending} {w : World} (h : DifPost p x y e w) : ∃ A n c z, e = .returned (.tuple #[.slice A n c, .int .i64 z]) := by
  rcases h with ⟨_, v, rfl, hor⟩ | ⟨_, rfl⟩
  · obtain ⟨A, c, rfl⟩ := hor.shape
    exact ⟨A, _, c, 0, rfl⟩
  · exact ⟨_, _, _, _, rfl⟩

set_option maxHeartbeats 400000 in
theorem sub_okO (pv xv yv : Value) (p x y : List Int) (w : World) (hp : IsRow w w.heap.size pv p) (hx : IsRow w w.heap.size xv x) (hy : IsRow w w.heap.size yv y) (h : chkAll p [x, y] = 0) :
    Calls Tryz.prog 48 #[pv, xv, yv] w fun e w' => DifPost p x y e w' ∧ Below w.heap.size w w' := by
  obtain ⟨AP, cp, rfl⟩ := hp.shape
  obtain ⟨AX, cx, rfl⟩ := hx.shape
  obtain ⟨AY, cy, rfl⟩ := hy.shape
  have hc := checkTwo AP AX AY cp cx cy p x y w hp hx hy
  rw [h] at hc
  have HC := Lib.hid (sum_loopO AP AX AY cp cx cy p x y (-1) w hp hx hy h (.inr rfl) (Lib.hid hc))
  clear hp hx hy h hc
  go_enter Tryz.func48, Tryz.ntmps48
  go_wp2_with fail
  refine HC.out.mono ?_
  rintro e w1 ⟨hr, hb1⟩
  have HR : Hid (DifPost p x y e w1) := Lib.hid hr
  rcases hr with ⟨_, v, rfl, _⟩ | ⟨_, rfl⟩
  · go_wp2_with fail
    go_ret2
    exact ⟨HR.out, hb1⟩
  · go_wp2_with fail
    go_ret2
    exact ⟨HR.out, hb1⟩

end Go.Proofs.YteenfcmnmenigaaGreatDoor

namespace Go.Proofs.YteenfcmnmenigaaGreatDoor
open Go.RowKit Go.Lib

/-- The logarithm of the first k exponents, times 2^26, from the lower bounds alone. -/
def qSum (p x : List Int) : Nat → Int
  | 0 => 0
  | k + 1 => qSum p x k + x[k]?.getD 0 * lgA (p[k]?.getD 0)
def qWid (x : List Int) : Nat → Nat
  | 0 => 0
  | k + 1 => qWid x k + (x[k]?.getD 0).natAbs
theorem qNear (p x : List Int) : ∀ k, qSum p x k - qWid x k ≤ nearLo p x k ∧ nearLo p x k ≤ qSum p x k ∧ qSum p x k ≤ nearHi p x k ∧ nearHi p x k ≤ qSum p x k + qWid x k
  | 0 => by simp [qSum, qWid, nearLo, nearHi]
  | k + 1 => by
    obtain ⟨h1, h2, h3, h4⟩ := qNear p x k
    rw [qSum, qWid, nearLo, nearHi]
    generalize x[k]?.getD 0 = e at *
    generalize p[k]?.getD 0 = v at *
    unfold lgB
    split
    · rw [Int.min_self, Int.max_self]
      omega
    · rw [Int.mul_add, Int.mul_one]
      generalize e * lgA v = t at *
      omega

theorem q_div {z y q t a r : Int} (ha : 0 < a) (hy : y = a ∨ y = a + 1) (ht : t = q * a) (hr : z = t + r) (h1 : 0 ≤ r) (h2 : r < a) (h3 : 0 ≤ r - q) (h4 : r - q < a) : z / y = q := by
  rcases hy with rfl | rfl
  · rw [hr, ht, Int.add_comm, Int.add_mul_ediv_right _ _ (by omega), Int.ediv_eq_zero_of_lt h1 h2]; omega
  · have : z = (r - q) + q * (a + 1) := by rw [Int.mul_add, Int.mul_one, ← ht]; omega
    rw [this, Int.add_mul_ediv_right _ _ (by omega), Int.ediv_eq_zero_of_lt h3 (by omega)]; omega

/-- A number whose rest is far from the divisor: the quotients of the bounds are the same. -/
theorem q_quot {c a xl xh yh : Int} (ha : 0 < a) (hy : yh = a ∨ yh = a + 1) (h1 : 1500 ≤ c % a) (h2 : c % a + 1500 ≤ a) (hq : (c / a).natAbs ≤ 400) (hl : c - 1000 ≤ xl) (hl2 : xl ≤ c) (hh : c ≤ xh) (hh2 : xh ≤ c + 1000) : quotQ xl xh a yh = some (c / a) := by
  have hc : c = c / a * a + c % a := by have := Int.mul_ediv_add_emod c a; rw [Int.mul_comm] at this; omega
  generalize c / a = q at *
  generalize c % a = r at *
  obtain ⟨t, ht⟩ : ∃ t, t = q * a := ⟨_, rfl⟩
  rw [← ht] at hc
  have d1 : xl / (if xl < 0 then a else yh) = q := q_div ha (by split <;> omega) ht (show xl = t + (xl - t) by omega) (by omega) (by omega) (by omega) (by omega)
  have d2 : xh / (if xh < 0 then yh else a) = q := q_div ha (by split <;> omega) ht (show xh = t + (xh - t) by omega) (by omega) (by omega) (by omega) (by omega)
  unfold quotQ
  rw [d1, d2, if_pos rfl]

/-- All exponents from -12 to 12 of the places 1 to k: the rests are far from the divisor. -/
def qChk (a : Nat) (A : List Nat) : Nat → Nat → Bool → Bool
  | 0, s, z => z || (Nat.ble 1500 (s % a) && Nat.ble (s % a + 1500) a)
  | k + 1, s, z => (List.range 25).all fun u => qChk a A k (s + u * A[k + 1]?.getD 0) (z && Nat.beq u 12)
def qU (A : List Nat) (x : List Int) : Nat → Nat
  | 0 => 0
  | k + 1 => qU A x k + (x[k + 1]?.getD 0 + 12).toNat * A[k + 1]?.getD 0
def qI (A : List Nat) (x : List Int) : Nat → Int
  | 0 => 0
  | k + 1 => qI A x k + x[k + 1]?.getD 0 * (A[k + 1]?.getD 0 : Nat)
def qA (A : List Nat) : Nat → Nat
  | 0 => 0
  | k + 1 => qA A k + A[k + 1]?.getD 0
theorem qChk_all {a : Nat} {A : List Nat} {x : List Int} : ∀ k s z, qChk a A k s z = true → (∀ i, 1 ≤ i → i ≤ k → (x[i]?.getD 0).natAbs ≤ 12) →
    (z = true ∧ ∀ i, 1 ≤ i → i ≤ k → x[i]?.getD 0 = 0) ∨ (1500 ≤ (s + qU A x k) % a ∧ (s + qU A x k) % a + 1500 ≤ a)
  | 0, s, z, h, _ => by
    unfold qChk at h
    rcases Bool.or_eq_true_iff.1 h with h | h
    · exact .inl ⟨h, fun i h1 h2 => by omega⟩
    · rw [Bool.and_eq_true] at h
      exact .inr ⟨Nat.le_of_ble_eq_true h.1, Nat.le_of_ble_eq_true h.2⟩
  | k + 1, s, z, h, hx => by
    unfold qChk at h
    have h9 := hx (k + 1) (by omega) (Nat.le_refl _)
    have hm : (x[k + 1]?.getD 0 + 12).toNat ∈ List.range 25 := by rw [List.mem_range]; omega
    have h2 := List.all_eq_true.1 h _ hm
    rcases qChk_all k _ _ h2 (fun i h1 h2 => hx i h1 (by omega)) with ⟨h3, h4⟩ | h3
    · rw [Bool.and_eq_true] at h3
      have h5 := Nat.eq_of_beq_eq_true h3.2
      refine .inl ⟨h3.1, fun i h1 h2 => ?_⟩
      by_cases hi : i = k + 1
      · subst hi; omega
      · exact h4 i h1 (by omega)
    · right
      rw [qU]
      rw [show s + (qU A x k + (x[k + 1]?.getD 0 + 12).toNat * A[k + 1]?.getD 0) = s + (x[k + 1]?.getD 0 + 12).toNat * A[k + 1]?.getD 0 + qU A x k by omega]
      exact h3
theorem qU_eq {A : List Nat} {x : List Int} : ∀ k, (∀ i, 1 ≤ i → i ≤ k → (x[i]?.getD 0).natAbs ≤ 12) → (qU A x k : Int) = qI A x k + 12 * qA A k
  | 0, _ => by simp [qU, qI, qA]
  | k + 1, h => by
    have ih := qU_eq (A := A) k (fun i h1 h2 => h i h1 (by omega))
    have h9 := h (k + 1) (by omega) (Nat.le_refl _)
    rw [qU, qI, qA]
    have : (((x[k + 1]?.getD 0 + 12).toNat * A[k + 1]?.getD 0 : Nat) : Int) = x[k + 1]?.getD 0 * (A[k + 1]?.getD 0 : Nat) + 12 * (A[k + 1]?.getD 0 : Nat) := by
      rw [Int.natCast_mul, show (((x[k + 1]?.getD 0 + 12).toNat : Nat) : Int) = x[k + 1]?.getD 0 + 12 by omega, Int.add_mul]
    generalize x[k + 1]?.getD 0 * ((A[k + 1]?.getD 0 : Nat) : Int) = t at *
    omega

/-- The logarithms of the lists' primes. -/
def qLogs (p : List Int) : List Nat := p.map fun v => fastL v.toNat
def qOne (p : List Int) : Bool := decide (1500 ≤ (qLogs p)[0]?.getD 0) && (p.all fun v => decide (2 ≤ v) && decide (v ≤ 1000) && (fastO v.toNat).isSome) && decide (0 < p.length) && decide (p.length ≤ 4)
def qTab (p : List Int) : Bool := qOne p && qChk ((qLogs p)[0]?.getD 0) (qLogs p) (p.length - 1) (12 * qA (qLogs p) (p.length - 1) * ((qLogs p)[0]?.getD 0 - 1)) true

theorem qLogs_get (p : List Int) (k : Nat) (hk : k < p.length) : ((qLogs p)[k]?.getD 0 : Int) = lgA (p[k]?.getD 0) := by
  unfold qLogs lgA
  rw [List.getElem?_map, List.getElem?_eq_getElem hk]
  rfl
theorem qSum_eq {p x : List Int} : ∀ k, k < p.length → qSum p x (k + 1) = x[0]?.getD 0 * lgA (p[0]?.getD 0) + qI (qLogs p) x k
  | 0, h => by simp [qSum, qI]
  | k + 1, h => by
    rw [qSum, qSum_eq k (by omega), qI, qLogs_get p (k + 1) h]
    omega

end Go.Proofs.YteenfcmnmenigaaGreatDoor

namespace Go.Proofs.YteenfcmnmenigaaGreatDoor
open Go.RowKit Go.Lib

def chTable : List (List Int) := [[2, 3, 5], [2, 3], [2, 3, 7]]
def chPrimes (n : Nat) : List Int := chTable.getD (n % 3) []
theorem chTable_all : ∀ k, k < 3 → primeErr (chTable.getD k []) = 0 ∧ (chTable.getD k []).length ≤ 3 := by decide +kernel
def logTab : List (List Nat) := [[67108864, 106365032, 155821956], [67108864, 106365032], [67108864, 106365032, 188398399]]
theorem logTab_ok : ∀ k, k < 3 → qLogs (chTable.getD k []) = logTab.getD k [] := by decide +kernel
theorem qOnes_ok : ∀ k, k < 3 → qOne (chTable.getD k []) = true := by decide +kernel
theorem qWids_ok : ∀ k, k < 3 → 12 * qA (logTab.getD k []) ((chTable.getD k []).length - 1) ≤ 73 * (logTab.getD k [])[0]?.getD 0 := by decide +kernel
theorem qc0 : qChk 67108864 [67108864, 106365032, 155821956] 2 211140847896895728 true = true := by decide +kernel
theorem qc1 : qChk 67108864 [67108864, 106365032] 1 85656436325743392 true = true := by decide +kernel
theorem qc2 : qChk 67108864 [67108864, 106365032, 188398399] 2 237374864500667436 true = true := by decide +kernel
theorem qStarts_ok : ∀ k, k < 3 → 12 * qA (logTab.getD k []) ((chTable.getD k []).length - 1) * ((logTab.getD k [])[0]?.getD 0 - 1) = [211140847896895728, 85656436325743392, 237374864500667436].getD k 0 := by decide +kernel

/-- What the tables give of a list of primes: a is the divisor. -/
structure TabOk (p : List Int) (a : Nat) (A : List Nat) : Prop where
  pe : primeErr p = 0
  pos : 0 < p.length
  le : p.length ≤ 4
  logs : qLogs p = A
  first : A[0]?.getD 0 = a
  big : 1500 ≤ a
  good : ∀ v ∈ p, 2 ≤ v ∧ v ≤ 1000 ∧ (fastO v.toNat).isSome = true
  chk : qChk a A (p.length - 1) (12 * qA A (p.length - 1) * (a - 1)) true = true
  wid : 12 * qA A (p.length - 1) ≤ 73 * a

theorem qChks_ok : ∀ k, k < 3 → qChk ((logTab.getD k [])[0]?.getD 0) (logTab.getD k []) ((chTable.getD k []).length - 1) (12 * qA (logTab.getD k []) ((chTable.getD k []).length - 1) * ((logTab.getD k [])[0]?.getD 0 - 1)) true = true := by
  intro k hk
  rw [qStarts_ok k hk]
  match k, hk with
  | 0, _ => exact qc0
  | 1, _ => exact qc1
  | 2, _ => exact qc2

theorem tabOk (n : Nat) : ∃ a A, TabOk (chPrimes n) a A := by
  unfold chPrimes
  have hk : n % 3 < 3 := Nat.mod_lt _ (by omega)
  generalize n % 3 = k at *
  have h1 := qOnes_ok k hk
  unfold qOne at h1
  rw [Bool.and_eq_true, Bool.and_eq_true, Bool.and_eq_true] at h1
  obtain ⟨⟨⟨e1, e2⟩, e3⟩, e4⟩ := h1
  have e5 := of_decide_eq_true e1
  rw [logTab_ok k hk] at e5
  refine ⟨(logTab.getD k [])[0]?.getD 0, logTab.getD k [], (chTable_all k hk).1, of_decide_eq_true e3, of_decide_eq_true e4, logTab_ok k hk, rfl, e5, fun v hv => ?_, qChks_ok k hk, qWids_ok k hk⟩
  have h2 := List.all_eq_true.1 e2 v hv
  rw [Bool.and_eq_true, Bool.and_eq_true] at h2
  exact ⟨of_decide_eq_true h2.1.1, of_decide_eq_true h2.1.2, h2.2⟩

/-- Small intervals: the first exponent apart, all from -12 to 12. -/
structure SmR (p x : List Int) : Prop where
  len : x.length = p.length
  fst : (x[0]?.getD 0).natAbs ≤ 300
  oth : ∀ i, 1 ≤ i → (x[i]?.getD 0).natAbs ≤ 12

/-- The floor of the interval, in equaves. -/
def qOf (p x : List Int) : Int := if pureT x then x[0]?.getD 0 else qSum p x p.length / lgA (p[0]?.getD 0)
def rOf (p x : List Int) : List Int := addE x (-qOf p x)
def cOf (p x : List Int) : List Int := rOf p (timesTo x (-1) x.length)

theorem qWid_le {p x : List Int} (h : SmR p x) : ∀ k, k ≤ 4 → qWid x k ≤ 300 + 12 * k
  | 0, _ => by simp [qWid]
  | k + 1, hk => by
    have ih := qWid_le h k (by omega)
    rw [qWid]
    rcases Nat.eq_zero_or_pos k with h0 | h0
    · subst h0
      have := h.fst
      simp [qWid]
      omega
    · have := h.oth k h0
      omega
theorem pure_of {x : List Int} (h : ∀ i, 1 ≤ i → i < x.length → x[i]?.getD 0 = 0) : pureT x = true := pureT_true fun k h1 h2 => h k h1 h2
theorem qI_le {A : List Nat} {x : List Int} : ∀ k, (∀ i, 1 ≤ i → i ≤ k → (x[i]?.getD 0).natAbs ≤ 12) → (qI A x k).natAbs ≤ 12 * qA A k
  | 0, _ => by simp [qI, qA]
  | k + 1, h => by
    have ih := qI_le (A := A) k (fun i h1 h2 => h i h1 (by omega))
    have h9 := h (k + 1) (by omega) (Nat.le_refl _)
    rw [qI, qA]
    have h2 : (x[k + 1]?.getD 0 * (A[k + 1]?.getD 0 : Nat)).natAbs ≤ 12 * A[k + 1]?.getD 0 := by
      rw [Int.natAbs_mul, Int.natAbs_natCast]
      exact Nat.mul_le_mul_right _ h9
    generalize x[k + 1]?.getD 0 * ((A[k + 1]?.getD 0 : Nat) : Int) = t at *
    omega

/-- The quotient lies near the first exponent. -/
theorem q_near {p x : List Int} {a : Nat} {A : List Nat} (hT : TabOk p a A) (h : SmR p x) : (qOf p x - x[0]?.getD 0).natAbs ≤ 74 := by
  unfold qOf
  split
  · omega
  · have hp := hT.pos
    have hL : lgA (p[0]?.getD 0) = (a : Int) := by rw [← qLogs_get p 0 hp, hT.logs, hT.first]
    have hq := qSum_eq (p := p) (x := x) (p.length - 1) (by omega)
    rw [Nat.sub_add_cancel (by omega), hL, hT.logs] at hq
    rw [hq, hL]
    have h1 := qI_le (A := A) (x := x) (p.length - 1) (fun i h1 _ => h.oth i h1)
    have h2 := hT.wid
    have h3 := hT.big
    generalize qI A x (p.length - 1) = t at *
    generalize qA A (p.length - 1) = s at *
    rw [Int.add_comm, Int.add_mul_ediv_right _ _ (by omega)]
    have h4 : t / (a : Int) ≤ 73 := by
      have : t / (a : Int) < 74 := Int.ediv_lt_of_lt_mul (by omega) (by omega)
      omega
    have h5 : -73 ≤ t / (a : Int) := Int.le_ediv_of_mul_le (by omega) (by omega)
    generalize t / (a : Int) = u at *
    omega

set_option maxHeartbeats 1000000 in
theorem q_flOk {p x : List Int} {a : Nat} {A : List Nat} (hT : TabOk p a A) (h : SmR p x) : FlOk p x (p.length - 1) (qOf p x) := by
  have hp := hT.pos
  have hle := hT.le
  have hn := q_near hT h
  have hf := h.fst
  have hall : ∀ i : Nat, (x[i]?.getD 0).natAbs ≤ 300 := fun i => by
    rcases Nat.eq_zero_or_pos i with h0 | h0
    · subst h0; exact hf
    · have := h.oth i h0; omega
  have hgood : ∀ i, i < p.length → ∀ e : Int, e.natAbs ≤ 20000 → Good (p[i]?.getD 0) e := fun i hi e he => by
    rw [List.getElem?_eq_getElem hi]
    obtain ⟨h1, h2, h3⟩ := hT.good _ (List.getElem_mem hi)
    exact ⟨h1, h2, he, h3⟩
  refine ⟨by rw [h.len]; omega, by omega, by omega, hgood 0 hp 1 (by decide), fun i hi _ => hgood i (by omega) _ (by have := hall i; omega), ?_, ?_, by omega⟩
  · intro z hz
    obtain ⟨i, hi, rfl⟩ := List.getElem_of_mem hz
    have := hall i
    rw [List.getElem?_eq_getElem hi] at this
    exact Nat.le_trans this (by decide)
  · by_cases hpt : pureT x = true
    · exact .inl ⟨hpt, by unfold qOf; rw [if_pos hpt]⟩
    · right
      have hpf : pureT x = false := by simpa using hpt
      refine ⟨hpf, ?_⟩
      have hqo : qOf p x = qSum p x p.length / lgA (p[0]?.getD 0) := by unfold qOf; rw [if_neg hpt]
      rw [Nat.sub_add_cancel (by omega)]
      have hL : lgA (p[0]?.getD 0) = (a : Int) := by rw [← qLogs_get p 0 hp, hT.logs, hT.first]
      have hq := qSum_eq (p := p) (x := x) (p.length - 1) (by omega)
      rw [Nat.sub_add_cancel (by omega), hL, hT.logs] at hq
      have hwid := qWid_le h p.length hle
      obtain ⟨n1, n2, n3, n4⟩ := qNear p x p.length
      have hbig := hT.big
      have hu := qU_eq (A := A) (x := x) (p.length - 1) (fun i h1 _ => h.oth i h1)
      have hr : 1500 ≤ qSum p x p.length % (a : Int) ∧ qSum p x p.length % (a : Int) + 1500 ≤ (a : Int) := by
        rcases qChk_all (x := x) _ _ _ hT.chk (fun i h1 _ => h.oth i h1) with ⟨_, h2⟩ | h2
        · exact absurd (pure_of fun i h3 h4 => h2 i h3 (by rw [h.len] at h4; omega)) hpt
        · have e : qSum p x p.length % (a : Int) = (((12 * qA A (p.length - 1) * (a - 1) + qU A x (p.length - 1)) % a : Nat) : Int) := by
            rw [Int.natCast_emod, Int.natCast_add, hu, Int.natCast_mul, Int.natCast_sub (by omega), hq]
            have : x[0]?.getD 0 * (a : Int) + qI A x (p.length - 1) = ((12 * qA A (p.length - 1) : Nat) : Int) * ((a : Int) - (1 : Nat)) + (qI A x (p.length - 1) + 12 * (qA A (p.length - 1) : Nat)) + (x[0]?.getD 0 - ((12 * qA A (p.length - 1) : Nat) : Int)) * (a : Int) := by
              rw [Int.mul_sub, Int.sub_mul]
              generalize x[0]?.getD 0 * (a : Int) = t1
              generalize ((12 * qA A (p.length - 1) : Nat) : Int) * (a : Int) = t2
              omega
            rw [this, Int.add_mul_emod_self_right]
          rw [e]
          omega
      have hB : lgB (p[0]?.getD 0) = (a : Int) ∨ lgB (p[0]?.getD 0) = (a : Int) + 1 := by
        unfold lgB
        rw [hL]
        split
        · exact .inl rfl
        · exact .inr rfl
      rw [hqo, hL] at hn ⊢
      exact q_quot (by omega) hB hr.1 hr.2 (by omega) (by omega) n2 n3 (by omega)

theorem addE_get (x : List Int) (n : Int) (i : Nat) (hi : 1 ≤ i) : (addE x n)[i]?.getD 0 = x[i]?.getD 0 := by
  unfold addE
  rw [List.getElem?_set_ne (by omega)]
theorem addE_get0 (x : List Int) (n : Int) (h : 0 < x.length) : (addE x n)[0]?.getD 0 = x[0]?.getD 0 + n := by
  unfold addE
  rw [List.getElem?_set_self h]
  rfl
theorem smR_chk {p x : List Int} (hp : primeErr p = 0) (h : SmR p x) : chkAll p [x] = 0 := by
  refine chk_small hp h.len fun v hv => ?_
  obtain ⟨i, hi, rfl⟩ := List.getElem_of_mem hv
  have : (x[i]?.getD 0).natAbs ≤ 300 := by
    rcases Nat.eq_zero_or_pos i with h0 | h0
    · subst h0; exact h.fst
    · have := h.oth i h0; omega
  rw [List.getElem?_eq_getElem hi] at this
  simp at this
  omega
/-- What is reduced is small again. -/
theorem smR_r {p x : List Int} {a : Nat} {A : List Nat} (hT : TabOk p a A) (h : SmR p x) : SmR p (rOf p x) := by
  have hn := q_near hT h
  have hp := hT.pos
  have hl := h.len
  unfold rOf
  refine ⟨by rw [addE_len, h.len], ?_, fun i hi => ?_⟩
  · rw [addE_get0 _ _ (by omega)]; omega
  · rw [addE_get _ _ _ hi]; exact h.oth i hi
theorem neg_get (x : List Int) (i : Nat) (hi : i < x.length) : (timesTo x (-1) x.length)[i]?.getD 0 = - (x[i]?.getD 0) := by
  rw [timesTo_get x (-1) i x.length hi]
  omega
theorem neg_get' (x : List Int) (i : Nat) : (timesTo x (-1) x.length)[i]?.getD 0 = - (x[i]?.getD 0) := by
  by_cases hi : i < x.length
  · exact neg_get x i hi
  · rw [List.getElem?_eq_none (by rw [timesTo_len]; omega), List.getElem?_eq_none (by omega)]; rfl
theorem smR_neg {p x : List Int} (h : SmR p x) : SmR p (timesTo x (-1) x.length) := by
  have hl := h.len
  refine ⟨by rw [timesTo_len, h.len], ?_, fun i hi => ?_⟩
  · rw [neg_get']; have := h.fst; omega
  · rw [neg_get']; have := h.oth i hi; omega
theorem smR_c {p x : List Int} {a : Nat} {A : List Nat} (hT : TabOk p a A) (h : SmR p x) : SmR p (cOf p x) := smR_r hT (smR_neg h)

theorem redOk_sm {p x : List Int} {a : Nat} {A : List Nat} (hT : TabOk p a A) (h : SmR p x) : RedOk p x (p.length - 1) (qOf p x) :=
  ⟨q_flOk hT h, hT.pe, smR_chk hT.pe h, smR_chk hT.pe (smR_r hT h), by have := q_near hT h; have := h.fst; omega⟩
theorem rdsOk_sm {p : List Int} {l : List (List Int)} {a : Nat} {A : List Nat} (hT : TabOk p a A) (h : ∀ x ∈ l, SmR p x) : RdsOk p (p.length - 1) l (rOf p) (cOf p) :=
  ⟨fun x hx => ⟨_, redOk_sm hT (h x hx), rfl⟩, fun x hx => ⟨_, redOk_sm hT (smR_neg (h x hx)), rfl⟩, fun x hx => chk_both (smR_chk hT.pe (smR_r hT (h x hx))) (smR_chk hT.pe (smR_c hT (h x hx))), hT.pe⟩

end Go.Proofs.YteenfcmnmenigaaGreatDoor

namespace Go.Proofs.YteenfcmnmenigaaGreatDoor
open Go.RowKit Go.Lib

theorem timesTo_map (x : List Int) : ∀ k, k ≤ x.length → timesTo x (-1) k = (x.take k).map (fun z => -z)
  | 0, _ => rfl
  | k + 1, h => by
    rw [timesTo, timesTo_map x k (by omega), List.take_succ_eq_append_getElem (by omega), List.map_append, List.getElem?_eq_getElem (by omega)]
    simp
def negL (x : List Int) : List Int := x.map fun z => -z
theorem neg_map (x : List Int) : timesTo x (-1) x.length = negL x := by rw [timesTo_map x _ (Nat.le_refl _), List.take_length]; rfl
theorem negL_len (x : List Int) : (negL x).length = x.length := by unfold negL; rw [List.length_map]
theorem negL_negL (x : List Int) : negL (negL x) = x := by
  have h : (fun z : Int => -z) ∘ (fun z : Int => -z) = id := by funext z; simp
  unfold negL
  rw [List.map_map, h, List.map_id]
theorem negL_get0 (x : List Int) : (negL x)[0]?.getD 0 = -(x[0]?.getD 0) := by
  unfold negL
  rw [List.getElem?_map]
  cases x[0]? <;> rfl
theorem negL_addE (x : List Int) (n : Int) : negL (addE x n) = addE (negL x) (-n) := by
  unfold addE
  rw [negL_get0, show -(x[0]?.getD 0) + -n = -(x[0]?.getD 0 + n) by omega]
  unfold negL
  rw [List.map_set]
theorem addE_addE (x : List Int) (m n : Int) (h : 0 < x.length) : addE (addE x m) n = addE x (m + n) := by
  have h0 : (x.set 0 (x[0]?.getD 0 + m))[0]?.getD 0 = x[0]?.getD 0 + m := addE_get0 x m h
  unfold addE
  rw [h0, List.set_set, Int.add_assoc]
theorem addE_zero (x : List Int) : addE x 0 = x := by
  unfold addE
  rw [Int.add_zero]
  cases x with
  | nil => rfl
  | cons a l => rfl
theorem pure_addE (x : List Int) (n : Int) : pureT (addE x n) = pureT x := by
  unfold pureT addE
  cases x <;> rfl
theorem qSum_addE {p x : List Int} {n : Int} (h : 0 < x.length) : ∀ k, qSum p (addE x n) (k + 1) = qSum p x (k + 1) + n * lgA (p[0]?.getD 0)
  | 0 => by
    rw [qSum, qSum, qSum, qSum, addE_get0 x n h, Int.add_mul]
    omega
  | k + 1 => by
    rw [qSum, qSum_addE h k, addE_get x n (k + 1) (by omega)]
    conv => rhs; rw [qSum]
    omega
theorem qOf_addE {p x : List Int} {a : Nat} {A : List Nat} (hT : TabOk p a A) (h : x.length = p.length) (n : Int) : qOf p (addE x n) = qOf p x + n := by
  have hp := hT.pos
  have hL : lgA (p[0]?.getD 0) = (a : Int) := by rw [← qLogs_get p 0 hp, hT.logs, hT.first]
  have hbig := hT.big
  unfold qOf
  rw [pure_addE]
  split
  · rw [addE_get0 x n (by omega)]
  · have := qSum_addE (p := p) (x := x) (n := n) (by omega) (p.length - 1)
    rw [Nat.sub_add_cancel (by omega)] at this
    rw [this, hL, Int.add_mul_ediv_right _ _ (by omega)]
theorem rOf_addE {p x : List Int} {a : Nat} {A : List Nat} (hT : TabOk p a A) (h : x.length = p.length) (n : Int) : rOf p (addE x n) = rOf p x := by
  have hp := hT.pos
  unfold rOf
  rw [qOf_addE hT h, addE_addE _ _ _ (by omega)]
  congr 1
  omega
theorem rOf_len (p x : List Int) : (rOf p x).length = x.length := addE_len _ _
theorem cOf_eq (p x : List Int) : cOf p x = rOf p (negL x) := by unfold cOf; rw [neg_map]
theorem rOf_rOf {p x : List Int} {a : Nat} {A : List Nat} (hT : TabOk p a A) (h : x.length = p.length) : rOf p (rOf p x) = rOf p x := rOf_addE hT h _
theorem cOf_rOf {p x : List Int} {a : Nat} {A : List Nat} (hT : TabOk p a A) (h : x.length = p.length) : cOf p (rOf p x) = cOf p x := by
  have e : negL (rOf p x) = addE (negL x) (- -qOf p x) := negL_addE x _
  rw [cOf_eq, cOf_eq, e]
  exact rOf_addE hT (by rw [negL_len]; exact h) _
theorem rOf_cOf {p x : List Int} {a : Nat} {A : List Nat} (hT : TabOk p a A) (h : x.length = p.length) : rOf p (cOf p x) = cOf p x := by
  rw [cOf_eq]
  exact rOf_rOf hT (by rw [negL_len]; exact h)
theorem cOf_cOf {p x : List Int} {a : Nat} {A : List Nat} (hT : TabOk p a A) (h : x.length = p.length) : cOf p (cOf p x) = rOf p x := by
  rw [cOf_eq p x, cOf_rOf hT (by rw [negL_len]; exact h), cOf_eq, negL_negL]

/-- A reduced interval that is not 0 is not its complement. -/
theorem r_ne_c {p x : List Int} {a : Nat} {A : List Nat} (hT : TabOk p a A) (h : x.length = p.length) (e : rOf p x = cOf p x) : zeroB (rOf p x) = true := by
  have hp := hT.pos
  have h1 : ∀ i : Nat, 1 ≤ i → x[i]?.getD 0 = 0 := fun i hi => by
    have e2 : (rOf p x)[i]?.getD 0 = (cOf p x)[i]?.getD 0 := by rw [e]
    rw [cOf_eq] at e2
    unfold rOf at e2
    rw [addE_get _ _ _ hi, addE_get _ _ _ hi] at e2
    unfold negL at e2
    rw [List.getElem?_map] at e2
    cases hx : x[i]? with
    | none => rfl
    | some z => rw [hx] at e2; simp at e2 ⊢; omega
  have hpt : pureT x = true := pure_of fun i hi _ => h1 i hi
  have hq : qOf p x = x[0]?.getD 0 := by unfold qOf; rw [if_pos hpt]
  have hall : ∀ i : Nat, (rOf p x)[i]?.getD 0 = 0 := fun i => by
    unfold rOf
    rcases Nat.eq_zero_or_pos i with h0 | h0
    · subst h0; rw [addE_get0 _ _ (by omega), hq]; omega
    · rw [addE_get _ _ _ h0]; exact h1 i h0
  unfold zeroB
  rw [Bool.not_eq_true', List.any_eq_false]
  intro z hz
  obtain ⟨i, hi, rfl⟩ := List.getElem_of_mem hz
  have := hall i
  rw [List.getElem?_eq_getElem hi] at this
  simp at this
  simp [this]

/-- The lists of the law: one interval more. -/
theorem once_app (p : List Int) (l m : List (List Int)) : onceL p (l ++ m) = m.foldl (insR p) (onceL p l) := by
  unfold onceL
  rw [List.foldl_append]

end Go.Proofs.YteenfcmnmenigaaGreatDoor
