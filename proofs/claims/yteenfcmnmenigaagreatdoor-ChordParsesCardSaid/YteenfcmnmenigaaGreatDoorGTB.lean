/- size.number, zero, Of: sizes of whole numbers. size.Of, short, check, CheckAll of sizes of whole numbers. Ones: decimal.Lcm, whole.Lcm, whole.DivMod of ones; owned rows beside each other; the plain words of terms. size.termsOf of a size of whole numbers. Rows in a block of their own. -/
import Derived.Test.YteenfcmnmenigaaGreatDoorGTA
import Derived.Test.YteenfcmnmenigaaGreatDoorGE
import Derived.Test.YteenfcmnmenigaaGreatDoorGF
import Derived.Test.YteenfcmnmenigaaGreatDoorGA
import Derived.Deep.AppendLies
import Derived.Deep.DrawnRows
namespace Go.Proofs.YteenfcmnmenigaaGreatDoor
open Go.RowKit Go.Lib

/-- Pairs of cells, one behind the other. -/
def flat2 : List (Value × Value) → List Value
  | [] => []
  | p :: l => p.1 :: p.2 :: flat2 l
theorem flat2_len : ∀ l, (flat2 l).length = l.length * 2
  | [] => rfl
  | p :: l => by rw [flat2, List.length_cons, List.length_cons, flat2_len l, List.length_cons]; omega
theorem flat2_get0 : ∀ (l : List (Value × Value)) (k : Nat), (flat2 l)[k * 2]? = l[k]?.map (·.1)
  | [], k => by simp [flat2]
  | p :: l, 0 => by simp [flat2]
  | p :: l, k + 1 => by
    rw [show (k + 1) * 2 = k * 2 + 1 + 1 by omega, flat2, List.getElem?_cons_succ, List.getElem?_cons_succ, flat2_get0 l k, List.getElem?_cons_succ]
theorem flat2_get1 : ∀ (l : List (Value × Value)) (k : Nat), (flat2 l)[k * 2 + 1]? = l[k]?.map (·.2)
  | [], k => by simp [flat2]
  | p :: l, 0 => by simp [flat2]
  | p :: l, k + 1 => by
    rw [show (k + 1) * 2 + 1 = k * 2 + 1 + 1 + 1 by omega, flat2, List.getElem?_cons_succ, List.getElem?_cons_succ, flat2_get1 l k, List.getElem?_cons_succ]
theorem flat2_set : ∀ (l : List (Value × Value)) (k : Nat) (a b : Value), ((flat2 l).set (k * 2) a).set (k * 2 + 1) b = flat2 (l.set k (a, b))
  | [], k, a, b => by simp [flat2]
  | p :: l, 0, a, b => by simp [flat2]
  | p :: l, k + 1, a, b => by
    rw [show (k + 1) * 2 = k * 2 + 1 + 1 by omega, show k * 2 + 1 + 1 + 1 = (k * 2 + 1) + 1 + 1 by omega, flat2, List.set_cons_succ, List.set_cons_succ, List.set_cons_succ, List.set_cons_succ, flat2_set l k a b, List.set_cons_succ, flat2]
theorem flat2_append : ∀ (l r : List (Value × Value)), flat2 (l ++ r) = flat2 l ++ flat2 r
  | [], r => rfl
  | p :: l, r => by rw [List.cons_append, flat2, flat2_append l r, flat2]; rfl

/-- A whole number as a fraction, and its cells. -/
def fpair (z : Int) : Value × Value := (.string ⟨(itoa z).toArray⟩, .string ⟨#[49]⟩)
def szs (l : List Int) : List Value := flat2 (l.map fpair)
theorem szs_len (l : List Int) : (szs l).length = l.length * 2 := by unfold szs; rw [flat2_len, List.length_map]
theorem szs_get0 {l : List Int} {k : Nat} {z : Int} (h : l[k]? = some z) : (szs l)[k * 2]? = some (.string ⟨(itoa z).toArray⟩) := by
  unfold szs
  rw [flat2_get0, List.getElem?_map, h]; rfl
theorem szs_get1 {l : List Int} {k : Nat} {z : Int} (h : l[k]? = some z) : (szs l)[k * 2 + 1]? = some (.string ⟨#[49]⟩) := by
  unfold szs
  rw [flat2_get1, List.getElem?_map, h]; rfl
theorem szs_set (l : List Int) (k : Nat) (z : Int) : ((szs l).set (k * 2) (.string ⟨(itoa z).toArray⟩)).set (k * 2 + 1) (.string ⟨#[49]⟩) = szs (l.set k z) := by
  unfold szs
  rw [flat2_set, List.map_set]; rfl

/-- A new size: a block of its own. -/
def SzAt (w : World) (B : Nat) (v : Value) (l : List Int) : Prop := ∃ g, v = .slice (some ⟨g, 0, Option.none⟩) l.length l.length ∧ B ≤ g ∧ Cells w g 72 (szs l)
/-- A size whose elements are whole numbers. -/
def IsSize (w : World) (B : Nat) (v : Value) (l : List Int) : Prop := ∃ A c, v = .slice A l.length c ∧ l.length ≤ c ∧ c ≤ maxLen ∧ Row w B 2 A l.length (szs l)
theorem SzAt.isSize {w : World} {B : Nat} {v : Value} {l : List Int} (h : SzAt w B v l) (hl : l.length ≤ 1000) : IsSize w w.heap.size v l := by
  obtain ⟨g, rfl, _, hc⟩ := h
  refine ⟨_, _, rfl, Nat.le_refl _, by unfold maxLen; omega, szs_len l, fun k u hu => ⟨_, rfl, hc.lt, ?_⟩⟩
  rw [show (⟨g, 0, Option.none⟩ : Addr).add k = ⟨g, k, Option.none⟩ by unfold Addr.add; split <;> simp_all, hc.cell k, hu]
theorem IsSize.keep {w w' : World} {B : Nat} {v : Value} {l : List Int} (h : IsSize w B v l) (hb : Below B w w') : IsSize w' B v l := by
  obtain ⟨A, c, rfl, h1, h2, h3⟩ := h
  exact ⟨A, c, rfl, h1, h2, h3.below hb (Nat.le_refl _)⟩
theorem IsSize.up {w : World} {B B' : Nat} {v : Value} {l : List Int} (h : IsSize w B v l) (hB : B ≤ B') : IsSize w B' v l := by
  obtain ⟨A, c, rfl, h1, h2, h3⟩ := h
  exact ⟨A, c, rfl, h1, h2, h3.up hB⟩
theorem IsSize.lift {w w' : World} {v : Value} {l : List Int} (h : IsSize w w.heap.size v l) (hb : Below w.heap.size w w') : IsSize w' w'.heap.size v l := (h.keep hb).up hb.size
/-- One element of a size: its two cells. -/
theorem IsSize.at_ {w : World} {B : Nat} {A : Option Addr} {n c : Nat} {l : List Int} (h : IsSize w B (.slice A n c) l) {k : Nat} (hk : k < l.length) :
    ∃ b o, A = some ⟨b, o, Option.none⟩ ∧ b < B ∧ w.cell? ⟨b, o + k * 2, Option.none⟩ = some (.string ⟨(itoa l[k]).toArray⟩) ∧ w.cell? ⟨b, o + k * 2 + 1, Option.none⟩ = some (.string ⟨#[49]⟩) := by
  obtain ⟨A', c', e, h1, h2, h3⟩ := h
  cases e
  obtain ⟨ad, e1, hb, hc⟩ := h3.get (k * 2) _ (szs_get0 (List.getElem?_eq_getElem hk))
  obtain ⟨ad', e2, _, hc'⟩ := h3.get (k * 2 + 1) _ (szs_get1 (List.getElem?_eq_getElem hk))
  cases e1.symm.trans e2
  have hpl : ∃ b o, ad = ⟨b, o, Option.none⟩ := by
    obtain ⟨ad2, e3, _, hc2⟩ := h3.get 0 _ (szs_get0 (k := 0) (List.getElem?_eq_getElem (by omega)))
    cases e1.symm.trans e3
    have hz : ad.add 0 = ad := by unfold Addr.add; simp
    rw [hz] at hc2
    obtain ⟨b, o, r⟩ := ad
    unfold World.cell? at hc2
    cases r with
    | none => exact ⟨b, o, rfl⟩
    | some x =>
      exfalso
      dsimp only at hc2
      split at hc2
      · simp at hc2
      · cases hc2
  obtain ⟨b, o, rfl⟩ := hpl
  rw [Lib.add_plain] at hc hc'
  exact ⟨b, o, e1, hb, hc, by rw [Nat.add_assoc]; exact hc'⟩

theorem Cells.of_full2 {w : World} {g : Nat} {e : TypeId} {xs : List Value} {base n : Nat} (h : w.ownsRow base e 2 (.slice (some ⟨g, 0, Option.none⟩) n n) n xs) : Cells w g e xs := by
  rcases h.2 with ⟨h0, _⟩ | ⟨g', cap, cur, hv, _, hg, _, _, hs, ht⟩
  · cases h0
  · cases hv
    unfold Cells
    rw [hg, ← ht, List.take_of_length_le (by rw [Array.length_toList, hs]; exact Nat.le_refl _)]
theorem made2 (a b : Value) (n : Nat) : (madeCells #[a, b] (n * 2)).toList = flat2 (List.replicate n (a, b)) := by
  apply List.ext_getElem?
  intro i
  have e : i = i / 2 * 2 ∨ i = i / 2 * 2 + 1 := by omega
  by_cases hi : i < n * 2
  · have h1 : (madeCells #[a, b] (n * 2)).toList[i]? = (#[a, b] : Array Value)[i % 2]? := by simp [madeCells, hi]; rcases Nat.mod_two_eq_zero_or_one i with h | h <;> simp [h]
    rw [h1]
    rcases e with e | e
    · rw [show i % 2 = 0 by omega, e, flat2_get0, List.getElem?_replicate, if_pos (by omega)]; rfl
    · rw [show i % 2 = 1 by omega, e, flat2_get1, List.getElem?_replicate, if_pos (by omega)]; rfl
  · rw [List.getElem?_eq_none (by simp [madeCells]; omega), List.getElem?_eq_none (by rw [flat2_len, List.length_replicate]; omega)]
theorem Tryz.info_rat : (Tryz.prog.info? 72).map (fun i => (i.zero, i.size, i.bytes)) = some (some (.agg #[.string ⟨#[]⟩, .string ⟨#[]⟩]), 2, 32) := by kernel_rfl

set_option maxHeartbeats 400000 in
theorem szNumber (z : Int) (w : World) (hS : Std w) (h0 : -9223372036854775808 ≤ z) (h1 : z ≤ 9223372036854775807) :
    Calls Tryz.prog 225 #[.int .i64 z] w fun e w' => e = .returned (.agg #[.string ⟨(itoa z).toArray⟩, .string ⟨#[49]⟩]) ∧ Below w.heap.size w w' := by
  have hC := Cells.new w 72 #[.string ⟨#[]⟩, .string ⟨#[]⟩]
  have hb0 : Below w.heap.size w (w.alloc (.cells #[.string ⟨#[]⟩, .string ⟨#[]⟩] 72)) := (Below.refl _ _).alloc (Nat.le_refl _) _
  have HF := Lib.hid (whOf_any z _ h0 h1 (hS.below hb0 (Nat.le_refl _)))
  have HC := Lib.hid hC
  have HB := Lib.hid hb0
  clear hS h0 h1 hC hb0
  generalize itoa z = l at *
  go_enter Tryz.func225, Tryz.ntmps225
  go_wp2_with fail
  refine (HF.out).mono ?_
  rintro e w1 ⟨rfl, hb1⟩
  have hc := HC.out.below hb1 HC.out.lt
  have z0 := hc.cell 0
  have z1 := hc.cell 1
  have y0 := hc.free 0
  have y1 := hc.free 1
  simp at z0 z1
  have HB1 := Lib.hid (HB.out.trans (hb1.mono HB.out.size))
  clear hb1 hc
  go_wp2_with fail
  refine bodyPost_ret (v := .agg #[.string ⟨l.toArray⟩, .string ⟨#[49]⟩]) (by simp (maxDischargeDepth := 10) [results, Tryz.results225, go_sem, z0, z1]) rfl ⟨rfl, ?_⟩
  exact (HB1.out.setCell (by simp) _).setCell (by simp) _

set_option maxRecDepth 100000 in
set_option maxHeartbeats 2000000 in
theorem szZero (n : Nat) (w : World) (hS : Std w) (hn : n ≤ 1000) :
    Calls Tryz.prog 224 #[.int .i64 n] w fun e w' => (∃ v, e = .returned v ∧ SzAt w' w.heap.size v (List.replicate n 0)) ∧ Below w.heap.size w w' := by
  obtain ⟨i0, hi0, hz0, hz1, hz2⟩ := info_parts Tryz.info_rat
  have HS := Lib.hid hS
  clear hS
  go_enter Tryz.func224, Tryz.ntmps224
  go_wp2_with (at_make; refine wpList_make_full _ rfl _ _ _ rfl w.heap.size 72 i0 _ 2 Tryz.underlying213 hi0 hz0 hz1 .i64 .i64 _ _ n rfl rfl (by omega) (by omega) (by rw [hz2]; omega) (by unfold maxLen; omega) (Nat.le_refl _) ?_; intro w1 hown hg1)
  have hc1 : Cells w1 w.heap.size 72 (flat2 (List.replicate n (.string ⟨#[]⟩, .string ⟨#[]⟩))) := Cells.of_full2 (by rw [← made2]; exact hown)
  have hb1 : Below w.heap.size w w1 := (Below.refl _ _).grown hg1 (Nat.le_refl _) (by simp)
  clear hown hg1
  go_loopw [9] (fun i wr => ∃ (k : Nat) (P : List (Value × Value)), k ≤ n ∧ i = .int .i64 k ∧ Box (P.length = n ∧ ∀ j, j < k → P[j]? = some (fpair 0)) ∧ Cells wr w.heap.size 72 (flat2 P) ∧ Below w.heap.size w wr) (fun i _ => n - (intOf i).toNat)
  case atStart => exact ⟨0, _, Nat.zero_le _, rfl, ⟨by simp, fun j hj => by omega⟩, hc1, hb1⟩
  case round =>
    clear hc1 hb1
    obtain ⟨k, P, hk, rfl, HP, hcl, hbw⟩ := hrel
    by_cases hlt : k < n
    · have HN := Lib.hid (szNumber 0 wr (HS.out.below hbw (Nat.le_refl _)) (by decide) (by decide))
      have HC := Lib.hid hcl
      have HB := Lib.hid hbw
      clear hcl hbw
      have HE : Box (fpair 0 = (.string ⟨(itoa 0).toArray⟩, .string ⟨#[49]⟩)) := ⟨rfl⟩
      generalize itoa 0 = l0 at *
      go_wp2_with fail
      refine (HN.out).mono ?_
      rintro e w2 ⟨rfl, hb2⟩
      have hc2 := HC.out.below hb2 HC.out.lt
      obtain ⟨u0, c0⟩ : ∃ u, w2.cell? ⟨w.heap.size, k * 2, Option.none⟩ = some u := by
        have : (flat2 P).length = n * 2 := by rw [flat2_len, HP.out.1]
        exact ⟨_, (hc2.cell (k * 2)).trans (List.getElem?_eq_getElem (by omega))⟩
      obtain ⟨u1, c1⟩ : ∃ u, w2.cell? ⟨w.heap.size, k * 2 + 1, Option.none⟩ = some u := by
        have : (flat2 P).length = n * 2 := by rw [flat2_len, HP.out.1]
        exact ⟨_, (hc2.cell (k * 2 + 1)).trans (List.getElem?_eq_getElem (by omega))⟩
      have f0 := hc2.free (k * 2)
      have f1 := hc2.free (k * 2 + 1)
      have HC2 := Lib.hid hc2
      have HB2 := Lib.hid (HB.out.trans (hb2.mono HB.out.size))
      clear hc2 hb2
      go_wp2_with fail
      go_roundw
      case rel =>
        refine ⟨k + 1, P.set k (fpair 0), by omega, by go_num, ⟨by rw [List.length_set, HP.out.1], fun j hj => ?_⟩, ?_, ?_⟩
        · by_cases e : j = k
          · subst e
            rw [List.getElem?_set_self (by rw [HP.out.1]; exact hlt)]
          · rw [List.getElem?_set_ne (by omega)]
            exact HP.out.2 j (by omega)
        · rw [HE.out, ← flat2_set]
          exact (HC2.out.set _ _).set _ _
        · exact (HB2.out.setCell (Nat.le_refl _) _).setCell (Nat.le_refl _) _
      case measure => simp [intOf]; omega
    · obtain rfl : k = n := by omega
      have e : szs (List.replicate k 0) = flat2 P := by
        unfold szs
        congr 1
        apply List.ext_getElem?
        intro j
        by_cases hj : j < k
        · rw [HP.out.2 j hj, List.getElem?_map, List.getElem?_replicate, if_pos hj]; rfl
        · rw [List.getElem?_eq_none (by simp; omega), List.getElem?_eq_none (by rw [HP.out.1]; omega)]
      have hz : SzAt wr w.heap.size (.slice (some ⟨w.heap.size, 0, Option.none⟩) k k) (List.replicate k 0) := ⟨_, by rw [List.length_replicate], Nat.le_refl _, by rw [e]; exact hcl⟩
      have HZ := Lib.hid hz
      clear hz e hcl
      go_wp2_with fail
      go_ret
      exact ⟨⟨_, rfl, HZ.out⟩, hbw⟩

end Go.Proofs.YteenfcmnmenigaaGreatDoor

namespace Go.Proofs.YteenfcmnmenigaaGreatDoor
open Go.RowKit Go.Lib

theorem itoa_one : itoa 1 = [49] := by decide +kernel
theorem itoa_zero : itoa 0 = [48] := by decide +kernel
/-- The elements are small. -/
def SmallL (l : List Int) : Prop := ∀ z ∈ l, z.natAbs ≤ 1000000
theorem small_len {z : Int} (h : z.natAbs ≤ 1000000) : (itoa z).length ≤ 8 ∧ (decDigits z.natAbs).length ≤ 7 := by
  have h1 : (decDigits z.natAbs).length ≤ 7 := by
    rw [dec_length]
    exact nDigits_le (by omega) (by omega)
  have := itoa_len z
  omega

set_option maxRecDepth 100000 in
set_option maxHeartbeats 2000000 in
theorem szOf (pv xv : Value) (p x : List Int) (w : World) (hS : Std w) (hp : IsRow w w.heap.size pv p) (hx : IsRow w w.heap.size xv x) (h : chkAll p [x] = 0) :
    Calls Tryz.prog 208 #[pv, xv] w fun e w' => (∃ v, e = .returned (.tuple #[v, .int .i64 0]) ∧ SzAt w' w.heap.size v x) ∧ Below w.heap.size w w' := by
  have hr := right_of h
  have hlen := hr.len
  have h6 := hr.six
  have HEX : Box (∀ j, j < x.length → -1000 ≤ x[j]?.getD 0 ∧ x[j]?.getD 0 ≤ 1000) := ⟨hr.ex⟩
  have HC := Lib.hid (check_any pv xv p x w hp hx)
  rw [h] at HC
  have HS := Lib.hid hS
  obtain ⟨AP, cp, rfl, _, _, _⟩ := hp
  obtain ⟨AX, cx, rfl, _, _, hxr⟩ := hx
  have HLEN : Box (x.length = p.length) := ⟨hlen⟩
  have hx6 : x.length ≤ 6 := by omega
  have hp6 : p.length ≤ 6 := h6
  clear hr hlen h6 h hS
  go_enter Tryz.func208, Tryz.ntmps208
  go_wp2_with fail
  refine HC.out.mono ?_
  rintro e w1 ⟨rfl, hb1⟩
  have HB1 := Lib.hid hb1
  clear hb1
  go_wp2_with fail
  refine (szZero p.length w1 (HS.out.below HB1.out (Nat.le_refl _)) (by omega)).mono ?_
  rintro e w2 ⟨⟨v, rfl, g, rfl, hg, hc⟩, hb2⟩
  rw [List.length_replicate]
  have hb3 := HB1.out.trans (hb2.mono HB1.out.size)
  have hgw : w.heap.size ≤ g := Nat.le_trans HB1.out.size hg
  have HGW : Box (w.heap.size ≤ g) := ⟨hgw⟩
  clear hg hb2 HB1 hgw
  go_wp2_with fail
  go_loopw [21] (fun i wr => ∃ (k : Nat) (L : List Int), k ≤ x.length ∧ i = .int .i64 k ∧ Box (L.length = p.length ∧ ∀ j, j < k → L[j]? = x[j]?) ∧ Cells wr g 72 (szs L) ∧ Below w.heap.size w wr) (fun i _ => x.length - (intOf i).toNat)
  case atStart => exact ⟨0, _, Nat.zero_le _, rfl, ⟨by simp, fun j hj => by omega⟩, hc, hb3⟩
  case round =>
    clear hc hb3
    obtain ⟨k, L, hk, rfl, HL, hcl, hbw⟩ := hrel
    by_cases hlt : k < x.length
    · obtain ⟨ad1, rfl, _, hc1⟩ := (hxr.below hbw (Nat.le_refl _)).i_at hlt
      have hbd := HEX.out k hlt
      have HXK : Box (x[k]? = some (x[k]?.getD 0)) := ⟨by rw [List.getElem?_eq_getElem hlt]; rfl⟩
      have HLT : Box (k < L.length) := ⟨by rw [HL.out.1, ← HLEN.out]; exact hlt⟩
      have hkp : k < p.length := by rw [← HLEN.out]; exact hlt
      generalize x[k]?.getD 0 = a at *
      have HN := Lib.hid (szNumber a wr (HS.out.below hbw (Nat.le_refl _)) (by omega) (by omega))
      have HC := Lib.hid hcl
      have HB := Lib.hid hbw
      have hgl := hcl.lt
      have HST := Lib.hid (szs_set L k a)
      clear hcl hbw hbd
      generalize itoa a = l0 at *
      go_wp2_with fail
      refine (HN.out).mono ?_
      rintro e w2 ⟨rfl, hb2⟩
      have hc2 := HC.out.below hb2 HC.out.lt
      obtain ⟨u0, c0⟩ : ∃ u, w2.cell? ⟨g, k * 2, Option.none⟩ = some u := by
        have := szs_len L
        have := HLT.out
        exact ⟨_, (hc2.cell (k * 2)).trans (List.getElem?_eq_getElem (by omega))⟩
      obtain ⟨u1, c1⟩ : ∃ u, w2.cell? ⟨g, k * 2 + 1, Option.none⟩ = some u := by
        have := szs_len L
        have := HLT.out
        exact ⟨_, (hc2.cell (k * 2 + 1)).trans (List.getElem?_eq_getElem (by omega))⟩
      have f0 := hc2.free (k * 2)
      have f1 := hc2.free (k * 2 + 1)
      have HC2 := Lib.hid hc2
      have HB2 := Lib.hid (HB.out.trans (hb2.mono HB.out.size))
      clear hc2 hb2
      go_wp2_with fail
      go_roundw
      case rel =>
        refine ⟨k + 1, L.set k a, by omega, by go_num, ⟨by rw [List.length_set, HL.out.1], fun j hj => ?_⟩, ?_, ?_⟩
        · by_cases e : j = k
          · subst e
            rw [List.getElem?_set_self HLT.out, HXK.out]
          · rw [List.getElem?_set_ne (by omega)]
            exact HL.out.2 j (by omega)
        · rw [← HST.out]
          exact (HC2.out.set _ _).set _ _
        · exact (HB2.out.setCell HGW.out _).setCell HGW.out _
      case measure => simp [intOf]; omega
    · obtain rfl : k = x.length := by omega
      have e : L = x := by
        apply List.ext_getElem?
        intro j
        by_cases hj : j < x.length
        · exact HL.out.2 j hj
        · rw [List.getElem?_eq_none (by rw [HL.out.1, ← HLEN.out]; omega), List.getElem?_eq_none (by omega)]
      have hz : SzAt wr w.heap.size (.slice (some ⟨g, 0, Option.none⟩) p.length p.length) x := ⟨_, by rw [HLEN.out], HGW.out, by rw [← e]; exact hcl⟩
      have HZ := Lib.hid hz
      clear hz e hcl
      go_wp2_with fail
      go_ret2
      exact ⟨⟨_, rfl, HZ.out⟩, hbw⟩

set_option maxHeartbeats 1000000 in
theorem szShort (z : Int) (w : World) (h : z.natAbs ≤ 1000000) :
    Calls Tryz.prog 242 #[.agg #[.string ⟨(itoa z).toArray⟩, .string ⟨#[49]⟩]] w fun e w' => e = .returned (.bool true) ∧ Below w.heap.size w w' := by
  obtain ⟨h8, h7⟩ := small_len h
  have hC := Cells.new w 72 #[.string ⟨(itoa z).toArray⟩, .string ⟨#[49]⟩]
  have hb0 : Below w.heap.size w (w.alloc (.cells #[.string ⟨(itoa z).toArray⟩, .string ⟨#[49]⟩] 72)) := (Below.refl _ _).alloc (Nat.le_refl _) _
  have HF := Lib.hid (fun W => whAbs_any z W (by omega))
  have HC := Lib.hid hC
  have HB := Lib.hid hb0
  clear h hC hb0
  generalize itoa z = l at *
  generalize decDigits z.natAbs = m at *
  go_enter Tryz.func242, Tryz.ntmps242
  go_wp2_with fail
  refine (HF.out _).mono ?_
  rintro e w1 ⟨rfl, hb1⟩
  have hc := HC.out.below hb1 HC.out.lt
  have z1 := hc.cell 1
  simp at z1
  have HB1 := Lib.hid (HB.out.trans (hb1.mono HB.out.size))
  clear hb1 hc
  go_wp2_with fail
  go_ret
  exact ⟨rfl, HB1.out⟩

set_option maxRecDepth 100000 in
set_option maxHeartbeats 2000000 in
theorem szCheck (pv sv : Value) (p l : List Int) (w : World) (hS : Std w) (hp : IsRow w w.heap.size pv p) (hs : IsSize w w.heap.size sv l) (hlen : l.length = p.length) (hl : SmallL l) :
    Calls Tryz.prog 233 #[pv, sv] w fun e w' => e = .returned (.int .i64 0) ∧ Below w.heap.size w w' := by
  have HS := Lib.hid hS
  have HZ := Lib.hid hs
  obtain ⟨AP, cp, rfl, _, hpm, _⟩ := hp
  obtain ⟨AX, cx, rfl, _, hm, _⟩ := hs
  have hne : ((l.length : Int) != (p.length : Int)) = false := by simp [hlen]
  unfold maxLen at hm hpm
  have hll : l.length ≤ 9223372036854775807 := by omega
  have HL : Box (∀ z ∈ l, z.natAbs ≤ 1000000) := ⟨hl⟩
  clear hS hlen hl hm hpm
  go_enter Tryz.func233, Tryz.ntmps233
  go_wp2_with fail
  go_loopw [14] (fun i wr => ∃ (k : Nat), k ≤ l.length ∧ i = .int .i64 k ∧ Below w.heap.size w wr) (fun i _ => l.length - (intOf i).toNat)
  case atStart => exact ⟨0, Nat.zero_le _, rfl, Below.refl _ _⟩
  case round =>
    obtain ⟨k, hk, rfl, hbw⟩ := hrel
    by_cases hlt : k < l.length
    · obtain ⟨b1, o1, rfl, hb1, p0, p1⟩ := (HZ.out.lift hbw).at_ hlt
      have hz := HL.out _ (List.getElem_mem hlt)
      generalize l[k]'hlt = z at *
      obtain ⟨h8, h7⟩ := small_len hz
      have hS2 := HS.out.below hbw (Nat.le_refl _)
      have hba : Below wr.heap.size wr (wr.alloc (.cells #[.string ⟨(itoa z).toArray⟩, .string ⟨#[49]⟩] 72)) := (Below.refl _ _).alloc (Nat.le_refl _) _
      have HF := Lib.hid (by have h := fracCheck_yes z 1 _ (hS2.below hba (Nat.le_refl _)) (by omega) (by decide +kernel) (by decide) (by simp); rwa [itoa_one] at h)
      have HH := Lib.hid (fun W => szShort z W hz)
      have HN := Lib.hid (Cells.new wr 72 #[.string ⟨(itoa z).toArray⟩, .string ⟨#[49]⟩])
      have HB := Lib.hid hbw
      have HBA := Lib.hid hba
      clear hz h8 h7 hS2 hba hbw hb1
      generalize itoa z = zl at *
      go_wp2_with fail
      refine (HF.out).mono ?_
      rintro e w2 ⟨rfl, hb2⟩
      have hc2 := HN.out.below hb2 HN.out.lt
      have z0 := hc2.cell 0
      have z1 := hc2.cell 1
      simp at z0 z1
      have HB2 := Lib.hid (HB.out.trans ((HBA.out.trans (hb2.mono HBA.out.size)).mono HB.out.size))
      clear hc2 hb2 p0 p1
      go_wp2_with fail
      refine (HH.out _).mono ?_
      rintro e w3 ⟨rfl, hb3⟩
      have HB3 := Lib.hid (HB2.out.trans (hb3.mono HB2.out.size))
      clear hb3 z0 z1
      go_wp2_with fail
      go_roundw
      case rel => exact ⟨k + 1, by omega, by go_num, HB3.out⟩
      case measure => simp [intOf]; omega
    · obtain rfl : k = l.length := by omega
      go_wp2_with fail
      go_ret
      exact ⟨rfl, hbw⟩

/-- A slice of sizes. -/
structure SizesAt (w : World) (B : Nat) (A : Option Addr) (l : List (List Int)) : Prop where
  get : ∀ k x, l[k]? = some x → ∃ ad v, A = some ad ∧ ad.block < B ∧ w.cell? (ad.add k) = some v ∧ IsSize w B v x
theorem SizesAt.lift {w w' : World} {A : Option Addr} {l : List (List Int)} (h : SizesAt w w.heap.size A l) (hb : Below w.heap.size w w') : SizesAt w' w'.heap.size A l :=
  ⟨fun k x hx => by
    obtain ⟨ad, v, e, hlt, hc, hs⟩ := h.get k x hx
    exact ⟨ad, v, e, Nat.lt_of_lt_of_le hlt hb.size, by rw [hb.cell (by rw [add_block]; exact hlt)]; exact hc, hs.lift hb⟩⟩
/-- Right sizes over a list of n primes. -/
def RightS (n : Nat) (l : List (List Int)) : Prop := ∀ x ∈ l, x.length = n ∧ SmallL x

set_option maxRecDepth 100000 in
set_option maxHeartbeats 2000000 in
theorem szCheckAll (pv : Value) (p : List Int) (A : Option Addr) (c : Nat) (l : List (List Int)) (w : World) (hS : Std w) (hp : IsRow w w.heap.size pv p) (hpe : primeErr p = 0) (hs : SizesAt w w.heap.size A l) (hl : RightS p.length l) (hln : l.length ≤ 100000) :
    Calls Tryz.prog 226 #[pv, .slice A l.length c] w fun e w' => e = .returned (.int .i64 0) ∧ Below w.heap.size w w' := by
  have HS := Lib.hid hS
  have HZ := Lib.hid hs
  have HP := Lib.hid hp
  have HPC := Lib.hid (primeCheck_any pv p w.heap.size w hp)
  rw [hpe] at HPC
  obtain ⟨AP, cp, rfl, _, _, _⟩ := hp
  have HL : Box (∀ x ∈ l, x.length = p.length ∧ SmallL x) := ⟨hl⟩
  clear hS hl hs hpe
  go_enter Tryz.func226, Tryz.ntmps226
  go_wp2_with fail
  refine HPC.out.mono ?_
  rintro e w1 ⟨rfl, rfl⟩
  go_wp2_with fail
  go_loopw [16] (fun i wr => ∃ (k : Nat), k ≤ l.length ∧ i = .int .i64 k ∧ Below w.heap.size w wr) (fun i _ => l.length - (intOf i).toNat)
  case atStart => exact ⟨0, Nat.zero_le _, rfl, Below.refl _ _⟩
  case round =>
    obtain ⟨k, hk, rfl, hbw⟩ := hrel
    by_cases hlt : k < l.length
    · obtain ⟨ad, v, rfl, _, hc, hsz⟩ := (HZ.out.lift hbw).get k l[k] (List.getElem?_eq_getElem hlt)
      obtain ⟨h1, h2⟩ := HL.out _ (List.getElem_mem hlt)
      generalize l[k]'hlt = x at *
      have HC := Lib.hid (szCheck _ v p x wr (HS.out.below hbw (Nat.le_refl _)) (HP.out.lift hbw) hsz h1 h2)
      have HB := Lib.hid hbw
      obtain ⟨A', c', rfl, _⟩ := hsz
      clear h1 h2 hbw
      go_wp2_with fail
      refine (HC.out).mono ?_
      rintro e w2 ⟨rfl, hb2⟩
      have HB2 := Lib.hid (HB.out.trans (hb2.mono HB.out.size))
      clear hb2 hc
      go_wp2_with fail
      go_roundw
      case rel => exact ⟨k + 1, by omega, by go_num, HB2.out⟩
      case measure => simp [intOf]; omega
    · obtain rfl : k = l.length := by omega
      go_wp2_with fail
      go_ret
      exact ⟨rfl, hbw⟩

end Go.Proofs.YteenfcmnmenigaaGreatDoor

namespace Go.Proofs.YteenfcmnmenigaaGreatDoor
open Go.RowKit Go.Lib

theorem dec_one : decDigits 1 = [49] := by decide +kernel
theorem dec_zero : decDigits 0 = [48] := by decide +kernel

set_option maxHeartbeats 1000000 in
theorem decLcm_one (w : World) (hS : Std w) :
    Calls Tryz.prog 243 #[.string ⟨#[49]⟩, .string ⟨#[49]⟩] w fun e w' => e = .returned (.string ⟨#[49]⟩) ∧ Below w.heap.size w w' := by
  have HS := Lib.hid hS
  have HG := Lib.hid (by have h := decGcd_any 1 1 w hS (by decide +kernel) (by decide +kernel); rwa [show Nat.gcd 1 1 = 1 from rfl, dec_one] at h)
  have HD := Lib.hid (fun W (hW : Std W) => by have h := divMod_any 1 1 W hW (by decide +kernel) (by decide +kernel) (by decide); rwa [show 1 / 1 = 1 from rfl, show 1 % 1 = 0 from rfl, dec_one, dec_zero] at h)
  have HM := Lib.hid (fun W (hW : Std W) => by have h := mul_any 1 1 W hW (by decide +kernel) (by decide +kernel); rwa [show 1 * 1 = 1 from rfl, dec_one] at h)
  clear hS
  go_enter Tryz.func243, Tryz.ntmps243
  go_wp2_with fail
  refine (HG.out).mono ?_
  rintro e w1 ⟨rfl, hb1⟩
  have HB1 := Lib.hid hb1
  clear hb1
  go_wp2_with fail
  refine (HD.out _ (HS.out.below HB1.out (Nat.le_refl _))).mono ?_
  rintro e w2 ⟨rfl, hb2⟩
  have HB2 := Lib.hid (HB1.out.trans (hb2.mono HB1.out.size))
  clear hb2
  go_wp2_with fail
  refine (HM.out _ (HS.out.below HB2.out (Nat.le_refl _))).mono ?_
  rintro e w3 ⟨rfl, hb3⟩
  have HB3 := Lib.hid (HB2.out.trans (hb3.mono HB2.out.size))
  clear hb3
  go_wp2_with fail
  go_ret
  exact ⟨rfl, HB3.out⟩

set_option maxHeartbeats 400000 in
theorem whLcm_one (w : World) (hS : Std w) :
    Calls Tryz.prog 234 #[.string ⟨#[49]⟩, .string ⟨#[49]⟩] w fun e w' => e = .returned (.string ⟨#[49]⟩) ∧ Below w.heap.size w w' := by
  have HS := Lib.hid hS
  have HA := Lib.hid (fun W => by have h := whAbs_any 1 W (by decide +kernel); rwa [itoa_one, show (1 : Int).natAbs = 1 from rfl, dec_one] at h)
  clear hS
  go_enter Tryz.func234, Tryz.ntmps234
  go_wp2_with fail
  refine (HA.out _).mono ?_
  rintro e w1 ⟨rfl, hb1⟩
  have HB1 := Lib.hid hb1
  clear hb1
  go_wp2_with fail
  refine (HA.out _).mono ?_
  rintro e w2 ⟨rfl, hb2⟩
  have HB2 := Lib.hid (HB1.out.trans (hb2.mono HB1.out.size))
  clear hb2
  go_wp2_with fail
  refine (decLcm_one _ (HS.out.below HB2.out (Nat.le_refl _))).mono ?_
  rintro e w3 ⟨rfl, hb3⟩
  have HB3 := Lib.hid (HB2.out.trans (hb3.mono HB2.out.size))
  clear hb3
  go_wp2_with fail
  go_ret
  exact ⟨rfl, HB3.out⟩

theorem whDivMod_one (w : World) (hS : Std w) :
    Calls Tryz.prog 157 #[.string ⟨#[49]⟩, .string ⟨#[49]⟩] w fun e w' => e = .returned (.tuple #[.string ⟨#[49]⟩, .string ⟨#[48]⟩, .int .i64 0]) ∧ Below w.heap.size w w' := by
  have h := whDivMod_small 1 1 w hS (by decide +kernel) (by decide +kernel) (by decide)
  rwa [show 1 / 1 = 1 from rfl, show 1 % 1 = 0 from rfl, dec_one, dec_zero] at h

/-- A row that the call owns stays as it is where a row of another element type grows. -/
theorem own_grown {w w' : World} {base1 n1 s1 base2 n2 s2 : Nat} {e1 e2 : TypeId} {v1 v2 : Value} {xs1 xs2 : List Value} (h1 : w.ownsRow base1 e1 s1 v1 n1 xs1) (h2 : w.ownsRow base2 e2 s2 v2 n2 xs2) (hne : e1 ≠ e2) (hg : w.grownBy w' v1.ownBlock) : w'.ownsRow base2 e2 s2 v2 n2 xs2 := by
  refine ⟨h2.1, ?_⟩
  rcases h2.2 with h0 | ⟨g, cap, cur, rfl, b, c, d⟩
  · exact .inl h0
  · refine .inr ⟨g, cap, cur, rfl, b, ?_, d⟩
    refine (hg.block g (Array.getElem?_eq_some_iff.1 c).1 ?_).trans c
    rcases h1.2 with ⟨rfl, _⟩ | ⟨g', cap', cur', rfl, _, c', _⟩
    · simp [Value.ownBlock]
    · intro e
      have : g = g' := by simpa [Value.ownBlock] using e
      subst this
      rw [c] at c'
      injection c' with c'
      injection c' with _ c' _
      exact hne c'.symm

/-- Texts of whole numbers. -/
def zstrs (l : List Int) : List Value := l.map fun z => .string ⟨(itoa z).toArray⟩
theorem zstrs_len (l : List Int) : (zstrs l).length = l.length := by simp [zstrs]
theorem zstrs_append (a b : List Int) : zstrs (a ++ b) = zstrs a ++ zstrs b := by simp [zstrs]
/-- The places below k whose elements are not 0. -/
def nzTo (x : List Int) : Nat → List Nat
  | 0 => []
  | k + 1 => if x[k]?.getD 0 = 0 then nzTo x k else nzTo x k ++ [k]
theorem nzTo_len (x : List Int) : ∀ k, (nzTo x k).length ≤ k
  | 0 => Nat.le_refl _
  | k + 1 => by
    have := nzTo_len x k
    unfold nzTo
    split
    · omega
    · rw [List.length_append]; simp; omega
def nzP (p x : List Int) (k : Nat) : List Int := (nzTo x k).map fun i => p[i]?.getD 0
def nzF (x : List Int) (k : Nat) : List Int := (nzTo x k).map fun i => x[i]?.getD 0
theorem nzP_len (p x : List Int) (k : Nat) : (nzP p x k).length = (nzTo x k).length := by simp [nzP]
theorem nzF_len (x : List Int) (k : Nat) : (nzF x k).length = (nzTo x k).length := by simp [nzF]
theorem nz_zero {x : List Int} {k : Nat} (h : x[k]?.getD 0 = 0) : nzTo x (k + 1) = nzTo x k := if_pos h
theorem nz_more {x : List Int} {k : Nat} (h : x[k]?.getD 0 ≠ 0) : nzTo x (k + 1) = nzTo x k ++ [k] := if_neg h
/-- A slice of texts of whole numbers. -/
def IsZs (w : World) (B : Nat) (v : Value) (l : List Int) : Prop := ∃ A c, v = .slice A l.length c ∧ l.length ≤ c ∧ c ≤ maxLen ∧ Row w B 1 A l.length (zstrs l)
theorem IsZs.lift {w w' : World} {v : Value} {l : List Int} (h : IsZs w w.heap.size v l) (hb : Below w.heap.size w w') : IsZs w' w'.heap.size v l := by
  obtain ⟨A, c, rfl, h1, h2, h3⟩ := h
  exact ⟨A, c, rfl, h1, h2, (h3.below hb (Nat.le_refl _)).up hb.size⟩
theorem IsZs.of_own {w : World} {base : Nat} {e : TypeId} {v : Value} {l : List Int} (h : w.ownsRow base e 1 v l.length (zstrs l)) : IsZs w w.heap.size v l := by
  obtain ⟨A, c, rfl, h1, h2, h3⟩ := Row.of_own h
  exact ⟨A, c, rfl, h1, h2, h3⟩
theorem Tryz.info_Int : (Tryz.prog.info? 55).map (fun i => (i.zero, i.size, i.bytes)) = some (some (.string ⟨#[]⟩), 1, 16) := by kernel_rfl

end Go.Proofs.YteenfcmnmenigaaGreatDoor

namespace Go.Proofs.YteenfcmnmenigaaGreatDoor
open Go.RowKit Go.Lib
attribute [local go_sem ↓] Go.wp_at_zero Go.wp_at_succ

theorem own_ne_cells {w : World} {base n s g : Nat} {e e' : TypeId} {v : Value} {xs ys : List Value} (h : w.ownsRow base e s v n xs) (hc : Cells w g e' ys) (hne : e ≠ e') : some g ≠ v.ownBlock := by
  rcases h.2 with ⟨rfl, _⟩ | ⟨g', cap', cur', rfl, _, c', _⟩
  · simp [Value.ownBlock]
  · intro e1
    have : g = g' := by simpa [Value.ownBlock] using e1
    subst this
    unfold Cells at hc
    rw [hc] at c'
    injection c' with c'
    injection c' with _ c' _
    exact hne c'.symm
theorem cells2 {w : World} {g : Nat} {e : TypeId} {a b c : Value} (h : Cells w g e [a, b, c]) : (w.cell? ⟨g, 0, Option.none⟩ = some a ∧ w.cell? ⟨g, 1, Option.none⟩ = some b ∧ w.cell? ⟨g, 2, Option.none⟩ = some c) ∧ w.frozen? ⟨g, 0, Option.none⟩ = false ∧ w.frozen? ⟨g, 1, Option.none⟩ = false ∧ w.frozen? ⟨g, 2, Option.none⟩ = false :=
  ⟨⟨h.cell 0, h.cell 1, h.cell 2⟩, h.free 0, h.free 1, h.free 2⟩

/-- What termsOf returns. -/
def TermsV (w' : World) (v : Value) (p x : List Int) : Prop := ∃ v1 v2, v = .agg #[v1, v2, .string ⟨#[49]⟩] ∧ IsRow w' w'.heap.size v1 (nzP p x x.length) ∧ IsZs w' w'.heap.size v2 (nzF x x.length)

set_option maxRecDepth 100000 in
set_option maxHeartbeats 8000000 in
theorem szTermsOf (pv sv : Value) (p x : List Int) (w : World) (hS : Std w) (hp : IsRow w w.heap.size pv p) (hs : IsSize w w.heap.size sv x) (hlen : x.length = p.length) (hl : SmallL x) (hn : x.length ≤ 64) :
    Calls Tryz.prog 227 #[pv, sv] w fun e w' => (∃ v, e = .returned v ∧ TermsV w' v p x) ∧ Below w.heap.size w w' := by
  obtain ⟨i0, hi0, hz0, hz1, hz2⟩ := info_parts Tryz.info_int
  obtain ⟨j0, hj0, gz0, gz1, gz2⟩ := info_parts Tryz.info_Int
  have HS := Lib.hid hS
  have HZ := Lib.hid hs
  have HP := Lib.hid hp
  have HLEN : Box (x.length = p.length) := ⟨hlen⟩
  have HL : Box (∀ z ∈ x, z.natAbs ≤ 1000000) := ⟨hl⟩
  obtain ⟨AP, cp, rfl, _, _, hpr⟩ := hp
  obtain ⟨AX, cx, rfl, _, _, _⟩ := hs
  have hb0 : Below w.heap.size w ((w.alloc (.cells #[.slice Option.none 0 0, .slice Option.none 0 0, .string ⟨#[]⟩] 259)).alloc (.cells #[.slice Option.none 0 0, .slice Option.none 0 0, .string ⟨#[49]⟩] 259)) := ((Below.refl _ _).alloc (Nat.le_refl _) _).alloc (by simp) _
  have hc0 := (Cells.new w 259 #[.slice Option.none 0 0, .slice Option.none 0 0, .string ⟨#[]⟩]).alloc (.cells #[.slice Option.none 0 0, .slice Option.none 0 0, .string ⟨#[49]⟩] 259)
  have hc1 := Cells.new (w.alloc (.cells #[.slice Option.none 0 0, .slice Option.none 0 0, .string ⟨#[]⟩] 259)) 259 #[.slice Option.none 0 0, .slice Option.none 0 0, .string ⟨#[49]⟩]
  rw [World.size_alloc] at hc1
  have HB0 := Lib.hid hb0
  have HC0 := Lib.hid hc0
  have HC1 := Lib.hid hc1
  clear hS hl hlen hb0 hc0 hc1
  go_enter Tryz.func227, Tryz.ntmps227
  go_wp2_with fail
  go_loopw [16] (fun i wr => ∃ (k : Nat), k ≤ x.length ∧ i = .int .i64 k ∧ Cells wr w.heap.size 259 [.slice Option.none 0 0, .slice Option.none 0 0, .string ⟨#[]⟩] ∧ Cells wr (w.heap.size + 1) 259 [.slice Option.none 0 0, .slice Option.none 0 0, .string ⟨#[49]⟩] ∧ Below w.heap.size w wr) (fun i _ => x.length - (intOf i).toNat)
  case atStart => exact ⟨0, Nat.zero_le _, rfl, HC0.out, HC1.out, HB0.out⟩
  case round =>
    clear HB0 HC0 HC1
    obtain ⟨k, hk, rfl, hc0, hc1, hbw⟩ := hrel
    by_cases hlt : k < x.length
    · obtain ⟨b1, o1, rfl, hb1, p0, p1⟩ := (HZ.out.lift hbw).at_ hlt
      generalize x[k]'hlt = z at *
      generalize itoa z = zl at *
      have hba : Below wr.heap.size wr (wr.alloc (.cells #[.string ⟨zl.toArray⟩, .string ⟨#[49]⟩] 72)) := (Below.refl _ _).alloc (Nat.le_refl _) _
      have d2 := (hc1.alloc (.cells #[.string ⟨zl.toArray⟩, .string ⟨#[49]⟩] 72)).cell 2
      simp at d2
      have hne : w.heap.size + 1 < wr.heap.size := hc1.lt
      have HF := Lib.hid (whLcm_one (wr.alloc (.cells #[.string ⟨zl.toArray⟩, .string ⟨#[49]⟩] 72)) (HS.out.below (hbw.trans (hba.mono hbw.size)) (Nat.le_refl _)))
      have HB := Lib.hid hbw
      have HBA := Lib.hid hba
      have HC0 := Lib.hid hc0
      have HC1 := Lib.hid hc1
      have hlt0 : w.heap.size < wr.heap.size := hc0.lt
      clear hbw hba hc0 hc1 hb1
      go_wp2_with fail
      refine (HF.out).mono ?_
      rintro e w2 ⟨rfl, hb2⟩
      have hB2 := HBA.out.trans (hb2.mono HBA.out.size)
      have HC0' := Lib.hid (HC0.out.below hB2 hlt0)
      have HC1' := Lib.hid (HC1.out.below hB2 hne)
      have HB2 := Lib.hid (HB.out.trans (hB2.mono HB.out.size))
      have c2 := HC1'.out.cell 2
      have f2 := HC1'.out.free 2
      simp at c2
      clear hb2 hB2 p0 p1 d2
      go_wp2_with fail
      go_roundw
      case rel => exact ⟨k + 1, by omega, by go_num, HC0'.out.far (by simp) _, HC1'.out.set 2 _, HB2.out.setCell (by simp) _⟩
      case measure => simp [intOf]; omega
    · obtain rfl : k = x.length := by omega
      have HC0 := Lib.hid hc0
      have HC1 := Lib.hid hc1
      have HB := Lib.hid hbw
      clear hc0 hc1 hbw
      go_wp2_with fail
      obtain ⟨wo, rfl⟩ : ∃ wo : World, wo = wr := ⟨_, rfl⟩
      go_loopw [29] (fun i wr => ∃ (k : Nat) (v1 v2 : Value), k ≤ x.length ∧ i = .int .i64 k ∧ Cells wr w.heap.size 259 [.slice Option.none 0 0, .slice Option.none 0 0, .string ⟨#[]⟩] ∧ Cells wr (w.heap.size + 1) 259 [v1, v2, .string ⟨#[49]⟩] ∧ wr.ownsRow (w.heap.size + 2) 3 1 v1 (nzTo x k).length (is (nzP p x k)) ∧ wr.ownsRow (w.heap.size + 2) 55 1 v2 (nzTo x k).length (zstrs (nzF x k)) ∧ Below w.heap.size w wr) (fun i _ => x.length - (intOf i).toNat)
      case atStart => exact ⟨0, _, _, Nat.zero_le _, rfl, HC0.out, HC1.out, World.ownsRow_nil _ _ _ _, World.ownsRow_nil _ _ _ _, HB.out⟩
      case round =>
        clear HC0 HC1 HB
        obtain ⟨k, v1, v2, hk, rfl, hc0, hc1, ho1, ho2, hbw⟩ := hrel
        by_cases hlt : k < x.length
        · obtain ⟨b1, o1, rfl, hb1, p0, p1⟩ := (HZ.out.lift hbw).at_ hlt
          have hzb := HL.out _ (List.getElem_mem hlt)
          have hxk : x[k]?.getD 0 = x[k] := by rw [List.getElem?_eq_getElem hlt]; rfl
          have HNZ := Lib.hid (nz_zero (x := x) (k := k))
          have HNM := Lib.hid (nz_more (x := x) (k := k))
          rw [hxk] at HNZ HNM
          have HXK := Lib.hid hxk
          clear hxk
          generalize x[k]'hlt = z at *
          have hzero := itoa_zero_beq z
          have hsl := small_len hzb
          have hba : Below wr.heap.size wr (wr.alloc (.cells #[.string ⟨(itoa z).toArray⟩, .string ⟨#[49]⟩] 72)) := (Below.refl _ _).alloc (Nat.le_refl _) _
          have HN := Lib.hid (Cells.new wr 72 #[.string ⟨(itoa z).toArray⟩, .string ⟨#[49]⟩])
          by_cases hz : z = 0
          · rw [decide_eq_true hz] at hzero
            have HB := Lib.hid (hbw.trans (hba.mono hbw.size))
            have HC0 := Lib.hid (hc0.alloc (.cells #[.string ⟨(itoa z).toArray⟩, .string ⟨#[49]⟩] 72))
            have HC1 := Lib.hid (hc1.alloc (.cells #[.string ⟨(itoa z).toArray⟩, .string ⟨#[49]⟩] 72))
            have HO1 := Lib.hid (own_below ho1 hba)
            have HO2 := Lib.hid (own_below ho2 hba)
            have HNZ2 := Lib.hid (HNZ.out hz)
            clear hbw hba hc0 hc1 ho1 ho2 hsl hzb HNZ HNM HN hz
            generalize itoa z = zl at *
            go_wp2_with fail
            go_roundw
            case rel =>
              refine ⟨k + 1, v1, v2, by omega, by go_num, HC0.out, HC1.out, ?_, ?_, HB.out⟩
              · unfold nzP; rw [HNZ2.out]; exact HO1.out
              · unfold nzF; rw [HNZ2.out]; exact HO2.out
            case measure => simp [intOf]; omega
          · rw [decide_eq_false hz] at hzero
            have HNM2 := Lib.hid (HNM.out hz)
            have HLZ := Lib.hid hsl.1
            have hw1 : w.heap.size < wr.heap.size := hc0.lt
            have hw2 : w.heap.size + 1 < wr.heap.size := hc1.lt
            have HD := Lib.hid (whDivMod_one (wr.alloc (.cells #[.string ⟨(itoa z).toArray⟩, .string ⟨#[49]⟩] 72)) (HS.out.below (hbw.trans (hba.mono hbw.size)) (Nat.le_refl _)))
            have HM := Lib.hid (fun W (hW : Std W) => by have h := whMul_any z 1 W hW (by omega) (by decide +kernel); rwa [Int.mul_one, itoa_one] at h)
            have d2 := (hc1.alloc (.cells #[.string ⟨(itoa z).toArray⟩, .string ⟨#[49]⟩] 72)).cell 2
            simp at d2
            have HB := Lib.hid hbw
            have HBA := Lib.hid hba
            have HC0 := Lib.hid hc0
            have HC1 := Lib.hid hc1
            have HO1 := Lib.hid ho1
            have HO2 := Lib.hid ho2
            have HPK : Box (k < p.length) := ⟨by rw [← HLEN.out]; exact hlt⟩
            have hkp : (k : Int) < (p.length : Int) := by have := HPK.out; omega
            have hk0 : (0 : Int) ≤ (k : Int) := by omega
            clear hbw hba hc0 hc1 ho1 ho2 hsl hzb HNZ HNM hz hb1
            generalize hzl : itoa z = zl at *
            have HZL := Lib.hid hzl
            clear hzl
            go_wp2_with fail
            refine (HD.out).mono ?_
            rintro e w2 ⟨rfl, hb2⟩
            have hB2 := HBA.out.trans (hb2.mono HBA.out.size)
            have hbp := HB.out.trans (hB2.mono HB.out.size)
            obtain ⟨ad2, e2, hblt, hcp⟩ := (hpr.below hbp (Nat.le_refl _)).i_at (k := k) HPK.out
            subst e2
            have HNR := Lib.hid (HN.out.below hb2 HN.out.lt)
            have HC0' := Lib.hid (HC0.out.below hB2 hw1)
            have HC1' := Lib.hid (HC1.out.below hB2 hw2)
            have HO1' := Lib.hid (own_below HO1.out hB2)
            have HO2' := Lib.hid (own_below HO2.out hB2)
            have HBW := Lib.hid hbp
            have hsz : wr.heap.size < w2.heap.size := HNR.out.lt
            have hr0 := HNR.out.cell 0
            simp at hr0
            have hcl0 := HC1'.out.cell 0
            have hcl1 := HC1'.out.cell 1
            simp at hcl0 hcl1
            have HPX := Lib.hid (show p[k]?.getD 0 = p[k]?.getD 0 from rfl)
            generalize hpx : p[k]?.getD 0 = px at *
            have HPQ := Lib.hid hpx
            have hnl := nzTo_len x k
            have hzk : Box (zl.length ≤ 8) := ⟨HLZ.out⟩
            clear hb2 hB2 hbp p0 p1 d2 HO1 HO2 HC0 HC1 HB HBA HN HD hpx
            have hA0 := (HC1'.out.alloc (.cells #[.int .i64 px] 3)).cell 0
            have hA1 := (HC1'.out.alloc (.cells #[.int .i64 px] 3)).cell 1
            simp only [List.getElem?_cons_succ, List.getElem?_cons_zero] at hA0 hA1
            go_wp2_with fail
            refine region_E (T := (fun w' => w'.cell? (ad2.add k) = some (.int .i64 px) ∧ w'.cell? ⟨wr.heap.size, 0, Option.none⟩ = some (.string ⟨zl.toArray⟩))) (D := []) (S := (fun w' => w'.cell? ⟨w.heap.size + 1, 0, Option.none⟩ = some v1 ∧ w'.cell? ⟨w.heap.size + 1, 1, Option.none⟩ = some v2)) (E := [17, 19]) (by kernel_rfl) ?_ (fun hHeld => ?_)
            · exact ⟨⟨hcp, hr0⟩, hcl0, hcl1⟩
            refine anyE_easyD (i := 0) (d := some 46) (oi := _) (v := ?ev29) rfl rfl (by kernel_rfl) (by kernel_rfl) (by kernel_rfl) (fun _ _ _ h => h) (Or.inl ⟨by rfl, ?eh29⟩) ?er29
            case eh29 => (intro w hSw; (try dsimp only at hSw); go_simp; try (with_reducible rfl))
            try simp only [Act.put, List.setIfInBounds_toArray, List.set_cons_zero, List.set_cons_succ]
            refine anyE_loadD (i := 1) (d := some 47) (oi := _) (v := ?ev30) rfl rfl (by kernel_rfl) (by kernel_rfl) (by kernel_rfl) (by kernel_rfl) (fun _ _ _ h => h) (Or.inl ⟨by rfl, ?eh30⟩) (by assumption) ?er30
            case eh30 => (intro w hSw; (try dsimp only at hSw); go_simp; try (with_reducible rfl))
            try simp only [Act.put, List.setIfInBounds_toArray, List.set_cons_zero, List.set_cons_succ]
            refine anyE_easyD (i := 2) (d := some 48) (oi := _) (v := ?ev31) rfl rfl (by kernel_rfl) (by kernel_rfl) (by kernel_rfl) (fun _ _ _ h => h) (Or.inl ⟨by rfl, ?eh31⟩) ?er31
            case eh31 => (intro w hSw; (try dsimp only at hSw); go_simp; try (with_reducible rfl))
            try simp only [Act.put, List.setIfInBounds_toArray, List.set_cons_zero, List.set_cons_succ]
            refine anyE_easyD (i := 3) (d := some 49) (oi := _) (v := ?ev32) rfl rfl (by kernel_rfl) (by kernel_rfl) (by kernel_rfl) (fun _ _ _ h => h) (Or.inl ⟨by rfl, ?eh32⟩) ?er32
            case eh32 => (intro w hSw; (try dsimp only at hSw); go_simp; try (with_reducible rfl))
            try simp only [Act.put, List.setIfInBounds_toArray, List.set_cons_zero, List.set_cons_succ]
            refine anyE_easyD (i := 4) (d := some 50) (oi := _) (v := ?ev33) rfl rfl (by kernel_rfl) (by kernel_rfl) (by kernel_rfl) (fun _ _ _ h => h) (Or.inl ⟨by rfl, ?eh33⟩) ?er33
            case eh33 => (intro w hSw; (try dsimp only at hSw); go_simp; try (with_reducible rfl))
            try simp only [Act.put, List.setIfInBounds_toArray, List.set_cons_zero, List.set_cons_succ]
            refine anyE_heldD (i := 5) (d := some 51) (oi := _) (v := ?ev34) rfl rfl (by kernel_rfl) (by kernel_rfl) (by kernel_rfl) (by kernel_rfl) (fun _ _ _ h => h) (Or.inl ⟨by rfl, ?eh34⟩) (by first | exact hHeld | exact And.left hHeld) ?er34
            case eh34 => (intro w hSw; (try dsimp only at hSw); go_simp; try (with_reducible rfl))
            try simp only [Act.put, List.setIfInBounds_toArray, List.set_cons_zero, List.set_cons_succ]
            refine anyE_easyD (i := 8) (d := some 54) (oi := _) (v := ?ev35) rfl rfl (by kernel_rfl) (by kernel_rfl) (by kernel_rfl) (fun _ _ _ h => h) (Or.inl ⟨by rfl, ?eh35⟩) ?er35
            case eh35 => (intro w hSw; (try dsimp only at hSw); go_simp; try (with_reducible rfl))
            try simp only [Act.put, List.setIfInBounds_toArray, List.set_cons_zero, List.set_cons_succ]
            refine anyE_loadD (i := 9) (d := some 55) (oi := _) (v := ?ev36) rfl rfl (by kernel_rfl) (by kernel_rfl) (by kernel_rfl) (by kernel_rfl) (fun _ _ _ h => h) (Or.inl ⟨by rfl, ?eh36⟩) (by assumption) ?er36
            case eh36 => (intro w hSw; (try dsimp only at hSw); go_simp; try (with_reducible rfl))
            try simp only [Act.put, List.setIfInBounds_toArray, List.set_cons_zero, List.set_cons_succ]
            refine anyE_easyD (i := 10) (d := some 56) (oi := _) (v := ?ev37) rfl rfl (by kernel_rfl) (by kernel_rfl) (by kernel_rfl) (fun _ _ _ h => h) (Or.inl ⟨by rfl, ?eh37⟩) ?er37
            case eh37 => (intro w hSw; (try dsimp only at hSw); go_simp; try (with_reducible rfl))
            try simp only [Act.put, List.setIfInBounds_toArray, List.set_cons_zero, List.set_cons_succ]
            refine anyE_heldD (i := 11) (d := some 57) (oi := _) (v := ?ev38) rfl rfl (by kernel_rfl) (by kernel_rfl) (by kernel_rfl) (by kernel_rfl) (fun _ _ _ h => h) (Or.inl ⟨by rfl, ?eh38⟩) (by first | exact hHeld | exact And.left hHeld) ?er38
            case eh38 => (intro w hSw; (try dsimp only at hSw); go_simp; try (with_reducible rfl))
            try simp only [Act.put, List.setIfInBounds_toArray, List.set_cons_zero, List.set_cons_succ]
            refine anyE_easyD (i := 12) (d := some 58) (oi := _) (v := ?ev39) rfl rfl (by kernel_rfl) (by kernel_rfl) (by kernel_rfl) (fun _ _ _ h => h) (Or.inl ⟨by rfl, ?eh39⟩) ?er39
            case eh39 => (intro w hSw; (try dsimp only at hSw); go_simp; try (with_reducible rfl))
            try simp only [Act.put, List.setIfInBounds_toArray, List.set_cons_zero, List.set_cons_succ]
            refine anyE_oneD (i := 6) (o := _) (d := some 52) (by kernel_rfl) rfl rfl (fun K hK => ?_)
            go_simp
            refine hK.out _ _ ?_ (fun hHeld => ?_)
            · exact ⟨⟨cell_alloc hHeld.1.1, cell_alloc hHeld.1.2⟩, cell_alloc hHeld.2.1, cell_alloc hHeld.2.2⟩
            refine anyE_oneD (i := 7) (o := _) (d := some 53) (by kernel_rfl) rfl rfl (fun K hK => ?_)
            refine step_append_lies _ (by rfl) _ _ _ (by rfl) (w.heap.size + 2) 3 i0 _ 1 8 Tryz.underlying23 hi0 hz0 hz1 hz2 rfl (by omega) v1 (nzTo x k).length _ (by rfl) ((HO1'.out.alloc _).drew) ⟨w2.heap.size, 0, Option.none⟩ 1 1 [.int .i64 px] (by rfl) (by rfl) (World.news_of_block (cs := #[.int .i64 px]) (t := 3) (fr := (0, 0)) (heap_alloc_new w2 _)) (by simp [Value.oneCell']) (by omega) (by unfold maxLen; omega) (by omega) (by simp; omega) (w2.heap.size + 1) (by simp) ?_; intro gg cap w3 hown3 hgrow hat hlt3
            have hd1 : Cells (w2.alloc (.cells #[.int .i64 px] 3)).drew (w.heap.size + 1) 259 [v1, v2, .string ⟨#[49]⟩] := (HC1'.out.alloc _).drew
            have hd0 : Cells (w2.alloc (.cells #[.int .i64 px] 3)).drew w.heap.size 259 [.slice Option.none 0 0, .slice Option.none 0 0, .string ⟨#[]⟩] := (HC0'.out.alloc _).drew
            have hdr : Cells (w2.alloc (.cells #[.int .i64 px] 3)).drew wr.heap.size 72 [.string ⟨zl.toArray⟩, .string ⟨#[49]⟩] := (HNR.out.alloc _).drew
            have HC1a := Lib.hid (Cells.grown hd1 hgrow (own_ne_cells ((HO1'.out.alloc _).drew) hd1 (by decide)))
            have HC0a := Lib.hid (Cells.grown hd0 hgrow (own_ne_cells ((HO1'.out.alloc _).drew) hd0 (by decide)))
            have HNRa := Lib.hid (Cells.grown hdr hgrow (own_ne_cells ((HO1'.out.alloc _).drew) hdr (by decide)))
            have HO2a := Lib.hid (own_grown ((HO1'.out.alloc _).drew) ((HO2'.out.alloc (.cells #[.int .i64 px] 3)).drew) (by decide) hgrow)
            have HO1a := Lib.hid hown3
            have HBa := Lib.hid (((HBW.out.alloc (by have := HBW.out.size; exact this) (.cells #[.int .i64 px] 3)).drew).grown hgrow (by have := HBW.out.size; simp; omega) (fun j hj => by have := (HO1'.out.lt j hj).1; omega))
            have hs1 := (hgrow.cell_far (ad2.add k) (by rw [add_block]; simp; omega) (by rw [add_block]; exact fun e => by have := (HO1'.out.lt _ e.symm).1; omega)).trans (show (w2.alloc (.cells #[.int .i64 px] 3)).drew.cell? (ad2.add k) = some (.int .i64 px) from (World.cell?_alloc_lt w2 _ _ (by rw [add_block]; omega)).trans hcp)
            have hs2 := HNRa.out.cell 0
            have q0 := HC1a.out.cell 0
            have q1 := HC1a.out.cell 1
            simp at hs2 q0 q1
            clear hd1 hd0 hdr hown3 hgrow hat
            refine hK.out _ _ ?_ (fun hHeld => ?_)
            · exact ⟨⟨hs1, hs2⟩, q0, q1⟩
            refine anyE_easyD (i := 16) (d := some 62) (oi := _) (v := ?ev42) rfl rfl (by kernel_rfl) (by kernel_rfl) (by kernel_rfl) (fun _ _ _ h => h) (Or.inl ⟨by rfl, ?eh42⟩) ?er42
            case eh42 => (intro w hSw; (try dsimp only at hSw); go_simp; try (with_reducible rfl))
            try simp only [Act.put, List.setIfInBounds_toArray, List.set_cons_zero, List.set_cons_succ]
            refine anyE_oneD (i := 13) (o := _) (d := some 59) (by kernel_rfl) rfl rfl (fun K hK => ?_)
            go_simp
            go_at_call 91; refine (HM.out _ (HS.out.below HBa.out (Nat.le_refl _))).mono ?_; rintro e w4 ⟨rfl, hb4⟩
            have HC1b := Lib.hid (HC1a.out.below hb4 HC1a.out.lt)
            have HC0b := Lib.hid (HC0a.out.below hb4 HC0a.out.lt)
            have HNRb := Lib.hid (HNRa.out.below hb4 HNRa.out.lt)
            have HO2b := Lib.hid (own_below HO2a.out hb4)
            have HO1b := Lib.hid (own_below HO1a.out hb4)
            have ht1 := (hb4.cell (p := ad2.add k) (by rw [add_block]; have := HBa.out.size; omega)).trans hs1
            have HBb := Lib.hid (HBa.out.trans (hb4.mono HBa.out.size))
            have ht2 := HNRb.out.cell 0
            have r0 := HC1b.out.cell 0
            have r1 := HC1b.out.cell 1
            have r2 := (HC1b.out.alloc (.cells #[.string ⟨zl.toArray⟩] 55)).cell 1
            simp only [List.getElem?_cons_succ, List.getElem?_cons_zero] at r2
            simp at ht2 r0 r1
            clear hb4
            refine hK.out _ _ ?_ (fun hHeld => ?_)
            · exact ⟨⟨ht1, ht2⟩, r0, r1⟩
            refine anyE_oneD (i := 14) (o := _) (d := some 60) (by kernel_rfl) rfl rfl (fun K hK => ?_)
            go_simp
            refine hK.out _ _ ?_ (fun hHeld => ?_)
            · exact ⟨⟨cell_alloc hHeld.1.1, cell_alloc hHeld.1.2⟩, cell_alloc hHeld.2.1, cell_alloc hHeld.2.2⟩
            refine anyE_oneD (i := 15) (o := _) (d := some 61) (by kernel_rfl) rfl rfl (fun K hK => ?_)
            refine step_append_lies _ (by rfl) _ _ _ (by rfl) (w.heap.size + 2) 55 j0 _ 1 16 Tryz.underlying49 hj0 gz0 gz1 gz2 rfl (by omega) v2 (nzTo x k).length _ (by rfl) (HO2b.out.alloc _) ⟨w4.heap.size, 0, Option.none⟩ 1 1 [.string ⟨zl.toArray⟩] (by rfl) (by rfl) (World.news_of_block (cs := #[.string ⟨zl.toArray⟩]) (t := 55) (fr := (0, 0)) (heap_alloc_new w4 _)) (by simp [Value.oneCell']) (by omega) (by unfold maxLen; omega) (by omega) (by have := HBb.out.size; have := HC1b.out.lt; simp; omega) (w4.heap.size + 1) (by simp) ?_; intro gg2 cap2 w5 hown5 hgrow5 hat5 hlt5
            have hd1 : Cells (w4.alloc (.cells #[.string ⟨zl.toArray⟩] 55)) (w.heap.size + 1) 259 [v1, v2, .string ⟨#[49]⟩] := HC1b.out.alloc _
            have hd0 : Cells (w4.alloc (.cells #[.string ⟨zl.toArray⟩] 55)) w.heap.size 259 [.slice Option.none 0 0, .slice Option.none 0 0, .string ⟨#[]⟩] := HC0b.out.alloc _
            have hdr : Cells (w4.alloc (.cells #[.string ⟨zl.toArray⟩] 55)) wr.heap.size 72 [.string ⟨zl.toArray⟩, .string ⟨#[49]⟩] := HNRb.out.alloc _
            have HC1c := Lib.hid (Cells.grown hd1 hgrow5 (own_ne_cells (HO2b.out.alloc _) hd1 (by decide)))
            have HC0c := Lib.hid (Cells.grown hd0 hgrow5 (own_ne_cells (HO2b.out.alloc _) hd0 (by decide)))
            have HNRc := Lib.hid (Cells.grown hdr hgrow5 (own_ne_cells (HO2b.out.alloc _) hdr (by decide)))
            have HO1c := Lib.hid (own_grown (HO2b.out.alloc _) (HO1b.out.alloc (.cells #[.string ⟨zl.toArray⟩] 55)) (by decide) hgrow5)
            have HO2c := Lib.hid hown5
            have HBc := Lib.hid ((HBb.out.alloc HBb.out.size (.cells #[.string ⟨zl.toArray⟩] 55)).grown hgrow5 (by have := HBb.out.size; simp; omega) (fun j hj => by have := (HO2b.out.lt j hj).1; omega))
            have hu1 := (hgrow5.cell_far (ad2.add k) (by rw [add_block]; have := HBb.out.size; simp; omega) (by rw [add_block]; exact fun e => by have := (HO2b.out.lt _ e.symm).1; omega)).trans ((World.cell?_alloc_lt w4 _ _ (by rw [add_block]; have := HBb.out.size; omega)).trans ht1)
            have hu2 := HNRc.out.cell 0
            obtain ⟨⟨g0, g1, g2⟩, y0, y1, y2⟩ := cells2 HC1c.out
            simp at hu2
            clear hd1 hd0 hdr hown5 hgrow5 hat5
            refine hK.out _ _ ?_ (fun hHeld => ?_)
            · exact ⟨⟨hu1, hu2⟩, g0, g1⟩
            refine anyE_lastD (i := 17) (o := _) (d := Option.none) (by kernel_rfl) rfl rfl (by decide) (fun K hK => ?_)
            go_simp
            refine hK.out _ _ ?_ (fun hHeld => ?_)
            · exact ⟨cell_set_far hu1 (by rw [add_block]; simp; omega), cell_set_far hu2 (by simp; omega)⟩
            refine anyE_easyD (i := 18) (d := some 63) (oi := _) (v := ?ev47) rfl rfl (by kernel_rfl) (by kernel_rfl) (by kernel_rfl) (fun _ _ _ h => h) (Or.inl ⟨by rfl, ?eh47⟩) ?er47
            case eh47 => (intro w hSw; (try dsimp only at hSw); go_simp; try (with_reducible rfl))
            try simp only [Act.put, List.setIfInBounds_toArray, List.set_cons_zero, List.set_cons_succ]
            refine anyE_lastD (i := 19) (o := _) (d := Option.none) (by kernel_rfl) rfl rfl (by decide) (fun K hK => ?_)
            go_simp
            refine hK.out _ _ ?_ (fun hHeld => ?_)
            · exact ⟨cell_set_far (cell_set_far hu1 (by rw [add_block]; simp; omega)) (by rw [add_block]; simp; omega), cell_set_far (cell_set_far hu2 (by simp; omega)) (by simp; omega)⟩
            refine anyE_done (by kernel_rfl) ?_ _
            go_wp2_with fail
            go_roundw
            case rel =>
              have e1 : nzP p x (k + 1) = nzP p x k ++ [px] := by unfold nzP; rw [HNM2.out, List.map_append]; simp [HPQ.out]
              have e2 : nzF x (k + 1) = nzF x k ++ [z] := by unfold nzF; rw [HNM2.out, List.map_append]; simp [HXK.out]
              have e3 : (nzTo x (k + 1)).length = (nzTo x k).length + 1 := by rw [HNM2.out, List.length_append]; rfl
              refine ⟨k + 1, _, _, by omega, by go_num, (HC0c.out.far (by simp) _).far (by simp) _, (HC1c.out.set 0 _).set 1 _, ?_, ?_, (HBc.out.setCell (by simp) _).setCell (by simp) _⟩
              · rw [e1, e3, is_append]
                exact ownsRow_setCell_below (a := ⟨w.heap.size + 1, 1, Option.none⟩) (ownsRow_setCell_below (a := ⟨w.heap.size + 1, 0, Option.none⟩) HO1c.out (by show w.heap.size + 1 < w.heap.size + 2; omega) _) (by show w.heap.size + 1 < w.heap.size + 2; omega) _
              · rw [e2, e3, zstrs_append, show zstrs [z] = [.string ⟨zl.toArray⟩] by rw [← HZL.out]; rfl]
                exact ownsRow_setCell_below (a := ⟨w.heap.size + 1, 1, Option.none⟩) (ownsRow_setCell_below (a := ⟨w.heap.size + 1, 0, Option.none⟩) HO2c.out (by show w.heap.size + 1 < w.heap.size + 2; omega) _) (by show w.heap.size + 1 < w.heap.size + 2; omega) _
            case measure => simp [intOf]; omega
        · obtain rfl : k = x.length := by omega
          rw [← nzP_len p x] at ho1
          rw [← nzF_len x] at ho2
          have hr1 : IsRow wr wr.heap.size v1 (nzP p x x.length) := IsRow.of_own ho1
          have hr2 : IsZs wr wr.heap.size v2 (nzF x x.length) := IsZs.of_own ho2
          obtain ⟨A1, c1, rfl, _⟩ := hr1
          obtain ⟨A2, c2, rfl, _⟩ := hr2
          have HO1 := Lib.hid ho1
          have HO2 := Lib.hid ho2
          have HB := Lib.hid hbw
          obtain ⟨⟨g0, g1, g2⟩, y0, y1, y2⟩ := cells2 hc1
          obtain ⟨⟨h0, h1, h2⟩, x0, x1, x2⟩ := cells2 hc0
          have hlb : w.heap.size < wr.heap.size := hc0.lt
          clear ho1 ho2 hbw hc0 hc1
          go_wp2_with fail
          refine bodyPost_ret (v := .agg #[.slice A1 (nzP p x x.length).length c1, .slice A2 (nzF x x.length).length c2, .string ⟨#[49]⟩]) (by simp (maxDischargeDepth := 10) [results, Tryz.results227, go_sem, h0, h1, h2]) rfl ⟨⟨_, rfl, _, _, rfl, ?_, ?_⟩, ?_⟩
          · refine IsRow.of_own (base := w.heap.size + 2) ?_
            exact ownsRow_setCell_below (a := ⟨w.heap.size, 2, Option.none⟩) (ownsRow_setCell_below (a := ⟨w.heap.size, 1, Option.none⟩) (ownsRow_setCell_below (a := ⟨w.heap.size, 0, Option.none⟩) HO1.out (by show w.heap.size < w.heap.size + 2; omega) _) (by show w.heap.size < w.heap.size + 2; omega) _) (by show w.heap.size < w.heap.size + 2; omega) _
          · refine IsZs.of_own (base := w.heap.size + 2) (e := 55) ?_
            exact ownsRow_setCell_below (a := ⟨w.heap.size, 2, Option.none⟩) (ownsRow_setCell_below (a := ⟨w.heap.size, 1, Option.none⟩) (ownsRow_setCell_below (a := ⟨w.heap.size, 0, Option.none⟩) HO2.out (by show w.heap.size < w.heap.size + 2; omega) _) (by show w.heap.size < w.heap.size + 2; omega) _) (by show w.heap.size < w.heap.size + 2; omega) _
          · exact ((HB.out.setCell (Nat.le_refl _) _).setCell (Nat.le_refl _) _).setCell (Nat.le_refl _) _

end Go.Proofs.YteenfcmnmenigaaGreatDoor

namespace Go.Proofs.YteenfcmnmenigaaGreatDoor
open Go.RowKit Go.Lib

/-- A row that lies in a block of ints that somebody made. -/
def ORow (w : World) (v : Value) (x : List Int) : Prop := w.ownsRow 0 3 1 v x.length (is x)
theorem ORow.of_own {w : World} {base : Nat} {v : Value} {x : List Int} (h : w.ownsRow base 3 1 v x.length (is x)) : ORow w v x := own_base h (Nat.zero_le _)
theorem ORow.row {w : World} {v : Value} {x : List Int} (h : ORow w v x) : IsRow w w.heap.size v x := IsRow.of_own h
theorem ORow.below {w w' : World} {v : Value} {x : List Int} (h : ORow w v x) (hb : Below w.heap.size w w') : ORow w' v x := own_below h hb
theorem ORow.alloc {w : World} {v : Value} {x : List Int} (h : ORow w v x) (o : Obj) : ORow (w.alloc o) v x := World.ownsRow.alloc h o
theorem ORow.drew {w : World} {v : Value} {x : List Int} (h : ORow w v x) : ORow w.drew v x := h
theorem ORow.grown {w w' : World} {v v2 : Value} {x : List Int} {base s n : Nat} {e : TypeId} {xs : List Value} (h : ORow w v x) (ho : w.ownsRow base e s v2 n xs) (hne : e ≠ 3) (hg : w.grownBy w' v2.ownBlock) : ORow w' v x := own_grown ho h hne hg
theorem ORow.set {w : World} {v : Value} {x : List Int} {g k : Nat} {e : TypeId} {ys : List Value} (h : ORow w v x) (hc : Cells w g e ys) (hne : 3 ≠ e) (u : Value) : ORow (w.setCell ⟨g, k, Option.none⟩ u) v x := ownsRow_setCell_other (a := ⟨g, k, Option.none⟩) h (fun e2 => own_ne_cells h hc hne e2.symm) u
theorem ORow.shape {w : World} {v : Value} {x : List Int} (h : ORow w v x) : ∃ A c, v = .slice A x.length c := h.row.shape
theorem ORow.of_cells {w : World} {g n : Nat} {x : List Int} (h : Cells w g 3 (is x)) (hn : x.length = n) (hm : n ≤ 1000) : ORow w (.slice (some ⟨g, 0, Option.none⟩) n n) x := by
  unfold ORow
  rw [hn]
  have h2 := Cells.own (base := 0) (n := n) (k := n) h (Nat.zero_le _) (by rw [is_length, hn]) (by unfold maxLen; omega) (Nat.le_refl _)
  rw [List.take_of_length_le (by rw [is_length, hn]; exact Nat.le_refl _)] at h2
  exact h2
theorem own_put {w : World} {base n s : Nat} {e : TypeId} {v : Value} {xs : List Value} {D : Nat} {o : Obj} (h : w.ownsRow base e s v n xs) (hD : w.heap[D]? = some (.deferred (some []))) : (w.putObj D o).ownsRow base e s v n xs := by
  refine h.kept (grownBy_putObj' w D o) ?_
  rcases h.2 with ⟨rfl, _⟩ | ⟨g, cap, cur, rfl, _, hg, _⟩
  · left; rfl
  · right
    intro e2
    have : g = D := by simpa [Value.ownBlock] using e2
    subst this
    rw [hg] at hD
    cases hD

end Go.Proofs.YteenfcmnmenigaaGreatDoor
