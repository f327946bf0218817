/- Lists of rows; target.once's contract as a word; target.between up to it. target.whole, pair, lesser; lists of rows, appended. target.reduced with each of the three choices, given once (printed by gen_tg4.py). target.between, given once. -/
import Derived.Test.YtcfkclafpbaagaaGreatDoorGTF
import Derived.Test.YtcfkclafpbaagaaGreatDoorGE
import Derived.Maps.AppendAt
namespace Go.Proofs.YtcfkclafpbaagaaGreatDoor
open Go.RowKit Go.Lib

/-- A list of rows, each in a block of its own, in an array that the call owns. -/
def LRow (w : World) (base : Nat) (v : Value) (l : List (List Int)) : Prop :=
  ∃ vs : List Value, w.ownsRow base 28 1 v l.length vs ∧ ∀ (j : Nat) (x : List Int), l[j]? = some x → ∃ u, vs[j]? = some u ∧ ORow w u x
theorem LRow.nil (w : World) (base : Nat) : LRow w base (.slice Option.none 0 0) [] := ⟨[], World.ownsRow_nil _ _ _ _, fun j x h => by simp at h⟩
theorem LRow.below {w w' : World} {base : Nat} {v : Value} {l : List (List Int)} (h : LRow w base v l) (hb : Below w.heap.size w w') : LRow w' base v l := by
  obtain ⟨vs, h1, h2⟩ := h
  exact ⟨vs, own_below h1 hb, fun j x hj => by obtain ⟨u, h3, h4⟩ := h2 j x hj; exact ⟨u, h3, h4.below hb⟩⟩
theorem LRow.own {w : World} {base : Nat} {v : Value} {l : List (List Int)} (h : LRow w base v l) : ∃ vs, w.ownsRow base 28 1 v l.length vs := by
  obtain ⟨vs, h1, _⟩ := h
  exact ⟨vs, h1⟩
/-- One row more: what the append's law gives. -/
theorem LRow.snoc {w w' : World} {base : Nat} {v v' u : Value} {l : List (List Int)} {x : List Int} {vs : List Value} (h1 : w.ownsRow base 28 1 v l.length vs) (h2 : ∀ (j : Nat) (x : List Int), l[j]? = some x → ∃ u, vs[j]? = some u ∧ ORow w u x) (hx : ORow w u x)
    (hown : w'.ownsRow base 28 1 v' (l.length + 1) (vs ++ [u])) (hg : w.grownBy w' v.ownBlock) : LRow w' base v' (l ++ [x]) := by
  have hvl : vs.length = l.length := by have := h1.1; omega
  refine ⟨vs ++ [u], by rw [List.length_append]; exact hown, fun j y hj => ?_⟩
  by_cases hjl : j < l.length
  · rw [List.getElem?_append_left hjl] at hj
    obtain ⟨u2, h3, h4⟩ := h2 j y hj
    exact ⟨u2, by rw [List.getElem?_append_left (by omega)]; exact h3, h4.grown h1 (by decide) hg⟩
  · rw [List.getElem?_append_right (by omega)] at hj
    have hj0 : j - l.length = 0 := by
      obtain ⟨hlt, _⟩ := List.getElem?_eq_some_iff.1 hj
      simpa using hlt
    rw [hj0] at hj
    cases hj
    exact ⟨u, by rw [List.getElem?_append_right (by omega), hvl, hj0]; rfl, hx.grown h1 (by decide) hg⟩
theorem LRow.rows {w : World} {base : Nat} {A : Option Addr} {n c : Nat} {l : List (List Int)} (h : LRow w base (.slice A n c) l) : n = l.length ∧ RowsAt w w.heap.size A l := by
  obtain ⟨vs, h1, h2⟩ := h
  obtain ⟨A', c', e, h3, h4, hr⟩ := Row.of_own h1
  cases e
  refine ⟨rfl, ⟨fun k x hx => ?_⟩⟩
  obtain ⟨u, h5, h6⟩ := h2 k x hx
  obtain ⟨ad, e1, h7, h8⟩ := hr.get k u h5
  exact ⟨ad, u, e1, h7, h8, h6.row⟩
theorem LRow.shape {w : World} {base : Nat} {v : Value} {l : List (List Int)} (h : LRow w base v l) : ∃ A c, v = .slice A l.length c := by
  obtain ⟨vs, h1, _⟩ := h
  rcases h1.2 with ⟨rfl, h0⟩ | ⟨g, cap, cur, rfl, _⟩
  · exact ⟨Option.none, 0, by rw [h0]⟩
  · exact ⟨_, _, rfl⟩
theorem RowsAt.lift {w w' : World} {A : Option Addr} {l : List (List Int)} (h : RowsAt w w.heap.size A l) (hb : Below w.heap.size w w') : RowsAt w' w'.heap.size A l :=
  ⟨fun k x hx => by
    obtain ⟨ad, v, e, h1, h2, h3⟩ := h.get k x hx
    exact ⟨ad, v, e, Nat.lt_of_lt_of_le h1 hb.size, (hb.cell (p := ad.add k) (by rw [add_block]; exact h1)).trans h2, h3.lift hb⟩⟩

/-- x is less than y, as numbers. -/
def ltR (p x y : List Int) : Bool := decide (num p x * den p y < num p y * den p x)
def insR (p : List Int) (s : List (List Int)) (x : List Int) : List (List Int) := s.filter (fun y => ltR p y x) ++ x :: s.filter (fun y => ltR p x y)
/-- A list in order, each once. -/
def onceL (p : List Int) (l : List (List Int)) : List (List Int) := l.foldl (insR p) []

/-- What once returns. -/
def ListPost (l : List (List Int)) (e : Ending) (w' : World) : Prop := ∃ A c, e = .returned (.tuple #[.slice A l.length c, .int .i64 0]) ∧ RowsAt w' w'.heap.size A l
def OnceC : Prop := ∀ (pv : Value) (p : List Int) (A : Option Addr) (c : Nat) (l : List (List Int)) (w : World), Std w → IsRow w w.heap.size pv p → (∀ x ∈ l, chkAll p [x] = 0) → primeErr p = 0 → l.length ≤ 400 → RowsAt w w.heap.size A l →
  Calls Tryz.prog 84 #[pv, .slice A l.length c] w fun e w' => ListPost (onceL p l) e w' ∧ Below w.heap.size w w'

/-- All differences. -/
def prsR (l : List (List Int)) : List (List Int) := l.flatMap fun x => l.map fun y => subR x y
def prsTo (l : List (List Int)) (i k : Nat) : List (List Int) := (l.take i).flatMap (fun x => l.map fun y => subR x y) ++ (l.take k).map fun y => subR (l[i]?.getD []) y

theorem prsTo_zero (l : List (List Int)) : prsTo l 0 0 = [] := by simp [prsTo]
theorem prsTo_next {l : List (List Int)} {i k : Nat} (hk : k < l.length) : prsTo l i (k + 1) = prsTo l i k ++ [subR (l[i]?.getD []) (l[k])] := by
  unfold prsTo
  rw [← List.take_append_getElem hk, List.map_append, List.append_assoc]
  rfl
theorem prsTo_row {l : List (List Int)} {i : Nat} (hi : i < l.length) : prsTo l i l.length = prsTo l (i + 1) 0 := by
  unfold prsTo
  rw [← List.take_append_getElem hi, List.flatMap_append, List.take_length, List.take_zero, List.getElem?_eq_getElem hi]
  simp
theorem prsTo_all (l : List (List Int)) : prsTo l l.length 0 = prsR l := by
  unfold prsTo prsR
  simp
theorem prsTo_len (l : List (List Int)) (i k : Nat) (hi : i ≤ l.length) (hk : k ≤ l.length) : (prsTo l i k).length = i * l.length + k := by
  induction i with
  | zero => simp [prsTo]; omega
  | succ i ih =>
    unfold prsTo at ih ⊢
    rw [List.length_append, List.length_map, List.length_take] at ih ⊢
    rw [← List.take_append_getElem (show i < l.length by omega), List.flatMap_append, List.length_append]
    have := ih (by omega)
    simp at this ⊢
    rw [Nat.add_mul]
    omega

end Go.Proofs.YtcfkclafpbaagaaGreatDoor

namespace Go.Proofs.YtcfkclafpbaagaaGreatDoor
open Go.RowKit Go.Lib

/-- What a choice returns: some of the two rows. -/
def ChPost (w : World) (us : List Value) (e : Ending) (w' : World) : Prop := ∃ g, e = .returned (.tuple #[.slice (some ⟨g, 0, Option.none⟩) us.length us.length, .int .i64 0]) ∧ Cells w' g 28 us ∧ w.heap.size ≤ g

set_option maxHeartbeats 1000000 in
theorem whole_any (AP AX AY : Option Addr) (np nx ny cp cx cy : Nat) (w : World) :
    Calls Tryz.prog 47 #[.slice AP np cp, .slice AX nx cx, .slice AY ny cy] w fun e w' => ChPost w [.slice AX nx cx] e w' ∧ Below w.heap.size w w' := by
  go_enter Tryz.func47, Tryz.ntmps47
  go_wp2_with fail
  go_ret2
  exact ⟨⟨w.heap.size, rfl, Cells.new w 28 #[.slice AX nx cx], Nat.le_refl _⟩, (Below.refl _ _).alloc (Nat.le_refl _) _⟩

set_option maxHeartbeats 1000000 in
theorem pair_any (AP AX AY : Option Addr) (np nx ny cp cx cy : Nat) (w : World) :
    Calls Tryz.prog 49 #[.slice AP np cp, .slice AX nx cx, .slice AY ny cy] w fun e w' => ChPost w [.slice AX nx cx, .slice AY ny cy] e w' ∧ Below w.heap.size w w' := by
  go_enter Tryz.func49, Tryz.ntmps49
  go_wp2_with fail
  go_ret2
  exact ⟨⟨w.heap.size, rfl, Cells.new w 28 #[.slice AX nx cx, .slice AY ny cy], Nat.le_refl _⟩, (Below.refl _ _).alloc (Nat.le_refl _) _⟩

set_option maxHeartbeats 1000000 in
theorem lesser_any (AP AX AY : Option Addr) (cp cx cy : Nat) (p x y : List Int) (w : World) (hS : Std w) (hp : IsRow w w.heap.size (.slice AP p.length cp) p) (hx : IsRow w w.heap.size (.slice AX x.length cx) x) (hy : IsRow w w.heap.size (.slice AY y.length cy) y) (h : chkAll p [x, y] = 0) :
    Calls Tryz.prog 48 #[.slice AP p.length cp, .slice AX x.length cx, .slice AY y.length cy] w fun e w' => ChPost w [if ltR p y x then .slice AY y.length cy else .slice AX x.length cx] e w' ∧ Below w.heap.size w w' := by
  have HC := Lib.hid (compare_mon _ _ _ p x y w hp hx hy h hS)
  have hlt : ltR p y x = decide (num p y * den p x < num p x * den p y) := rfl
  clear hp hx hy h hS
  generalize hA : num p x * den p y = a at *
  generalize hB : num p y * den p x = b at *
  by_cases hlt2 : b < a
  · have e : ltR p y x = true := by rw [hlt, decide_eq_true hlt2]
    rw [e, if_pos rfl]
    have hc : cmpN a b = 1 := by unfold cmpN; rw [if_neg (by omega), if_neg (by omega)]
    rw [hc] at HC
    clear hlt hA hB hlt2 hc e
    go_enter Tryz.func48, Tryz.ntmps48
    go_wp2_with fail
    refine HC.out.mono ?_
    rintro e w1 ⟨rfl, hb1⟩
    go_wp2_with fail
    go_ret2
    exact ⟨⟨w1.heap.size, rfl, Cells.new w1 28 #[.slice AY y.length cy], hb1.size⟩, hb1.alloc hb1.size _⟩
  · have e : ltR p y x = false := by rw [hlt, decide_eq_false hlt2]
    rw [e, if_neg (by simp)]
    have hc : cmpN a b ≤ 0 := by unfold cmpN; split <;> (try split) <;> omega
    generalize cmpN a b = z at *
    clear hlt hA hB hlt2 e
    go_enter Tryz.func48, Tryz.ntmps48
    go_wp2_with fail
    refine HC.out.mono ?_
    rintro e w1 ⟨rfl, hb1⟩
    go_wp2_with fail
    go_ret2
    exact ⟨⟨w1.heap.size, rfl, Cells.new w1 28 #[.slice AX x.length cx], hb1.size⟩, hb1.alloc hb1.size _⟩

/-- Rows in front, in blocks of their own. -/
def RowsO (w : World) (us : List Value) (xs : List (List Int)) : Prop := us.length = xs.length ∧ ∀ (j : Nat) (x : List Int), xs[j]? = some x → ∃ u, us[j]? = some u ∧ ORow w u x
theorem LRow.app {w w' : World} {base : Nat} {v v' : Value} {l xs : List (List Int)} {vs us : List Value} (h1 : w.ownsRow base 28 1 v l.length vs) (h2 : ∀ (j : Nat) (x : List Int), l[j]? = some x → ∃ u, vs[j]? = some u ∧ ORow w u x) (hx : RowsO w us xs)
    (hown : w'.ownsRow base 28 1 v' (l.length + us.length) (vs ++ us)) (hg : w.grownBy w' v.ownBlock) : LRow w' base v' (l ++ xs) := by
  have hvl : vs.length = l.length := by have := h1.1; omega
  refine ⟨vs ++ us, by rw [List.length_append, ← hx.1]; exact hown, fun j y hj => ?_⟩
  by_cases hjl : j < l.length
  · rw [List.getElem?_append_left hjl] at hj
    obtain ⟨u2, h3, h4⟩ := h2 j y hj
    exact ⟨u2, by rw [List.getElem?_append_left (by omega)]; exact h3, h4.grown h1 (by decide) hg⟩
  · rw [List.getElem?_append_right (by omega)] at hj
    obtain ⟨u2, h3, h4⟩ := hx.2 _ y hj
    exact ⟨u2, by rw [List.getElem?_append_right (by omega), hvl]; exact h3, h4.grown h1 (by decide) hg⟩

end Go.Proofs.YtcfkclafpbaagaaGreatDoor

namespace Go.Proofs.YtcfkclafpbaagaaGreatDoor
open Go.RowKit Go.Lib

/-- What reduced needs: r x is x within the equave, c x its complement. -/
structure RdsOk (p : List Int) (n : Nat) (l : List (List Int)) (r c : List Int → List Int) : Prop where
  red : ∀ x ∈ l, ∃ q, RedOk p x n q ∧ r x = addE x (-q)
  inv : ∀ x ∈ l, ∃ q, RedOk p (timesTo x (-1) x.length) n q ∧ c x = addE (timesTo x (-1) x.length) (-q)
  chk : ∀ x ∈ l, chkAll p [r x, c x] = 0
  pe : primeErr p = 0

def selW (_p : List Int) (r _c : List Int → List Int) (x : List Int) : List (List Int) := if zeroB (r x) then [] else [r x]
def selsW (p : List Int) (r c : List Int → List Int) (l : List (List Int)) (k : Nat) : List (List Int) := (l.take k).flatMap (selW p r c)
theorem selsW_next {p : List Int} {r c : List Int → List Int} {l : List (List Int)} {k : Nat} (hk : k < l.length) : selsW p r c l (k + 1) = selsW p r c l k ++ selW p r c (l[k]) := by
  unfold selsW
  rw [← List.take_append_getElem hk, List.flatMap_append]
  simp
theorem selsW_len (p : List Int) (r c : List Int → List Int) (l : List (List Int)) : ∀ k, (selsW p r c l k).length ≤ 1 * k
  | 0 => by simp [selsW]
  | k + 1 => by
    have ih := selsW_len p r c l k
    by_cases hk : k < l.length
    · rw [selsW_next hk, List.length_append]
      have : (selW p r c l[k]).length ≤ 1 := by unfold selW; split <;> simp
      omega
    · have e : selsW p r c l (k + 1) = selsW p r c l k := by unfold selsW; rw [List.take_of_length_le (by omega), List.take_of_length_le (by omega)]
      rw [e]; omega

set_option maxRecDepth 100000 in
set_option maxHeartbeats 4000000 in
theorem reducedW (hON : OnceC) (pv : Value) (p : List Int) (n : Nat) (A : Option Addr) (c : Nat) (l : List (List Int)) (r cc : List Int → List Int) (w : World) (hS : Std w) (hpv : IsRow w w.heap.size pv p) (hl : RowsAt w w.heap.size A l) (h : RdsOk p n l r cc) (hn : 1 * l.length ≤ 400) :
    Calls Tryz.prog 46 #[pv, .slice A l.length c, .func (.func 47) #[] #[]] w fun e w' => ListPost (onceL p (selsW p r cc l l.length)) e w' ∧ Below w.heap.size w w' := by
  obtain ⟨i0, hi0, hz0, hz1, hz2⟩ := info_parts Tryz.info_row
  have HON : Box OnceC := ⟨hON⟩
  have HS := Lib.hid hS
  have HP := Lib.hid hpv
  obtain ⟨AP, cp, rfl⟩ := hpv.shape
  have HL : Box (RowsAt w w.heap.size A l) := ⟨hl⟩
  have HOK : Box (RdsOk p n l r cc) := ⟨h⟩
  have hpe := fun (args : Array Value) (W : World) => enters_of (P := Tryz.prog) Tryz.func47 (by kernel_rfl) rfl args W
  clear hON hS hpv hl h
  go_enter Tryz.func46, Tryz.ntmps46
  go_wp2_with fail
  go_loopw [8, 18] (fun o i wr => ∃ (k : Nat), k ≤ l.length ∧ i = .int .i64 k ∧ LRow wr w.heap.size o (selsW p r cc l k) ∧ Below w.heap.size w wr) (fun _ i _ => l.length - (intOf i).toNat)
  case atStart => exact ⟨0, Nat.zero_le _, rfl, LRow.nil _ _, Below.refl _ _⟩
  case round =>
    obtain ⟨k, hk, rfl, hlr, hbw⟩ := hrel
    have hsl := selsW_len p r cc l k
    by_cases hlt : k < l.length
    · obtain ⟨ad, xv, rfl, hab, hca, hrow⟩ := HL.out.get k l[k] (List.getElem?_eq_getElem hlt)
      have hca' := (hbw.cell (p := ad.add k) (by rw [add_block]; exact hab)).trans hca
      have HMK := Lib.hid (List.getElem_mem hlt)
      have HNX := Lib.hid (selsW_next (p := p) (r := r) (c := cc) hlt)
      generalize l[k]'hlt = x at *
      obtain ⟨q1, hq1, hr1⟩ := HOK.out.red x HMK.out
      obtain ⟨q2, hq2, hc2⟩ := HOK.out.inv x HMK.out
      have HRD := Lib.hid (ivReduce _ xv p x n q1 wr (HS.out.below hbw (Nat.le_refl _)) (HP.out.lift hbw) (hrow.lift hbw) hq1)
      have HIV := Lib.hid (fun W hb => ivInverse _ xv p x n q2 W (HS.out.below (w := w) (B := w.heap.size) hb (Nat.le_refl _)) (HP.out.lift hb) (hrow.lift hb) hq1.cx hq2)
      rw [← hr1] at HRD
      rw [← hc2] at HIV
      have HRL : Hid ((r x).length = x.length) := Lib.hid (by rw [hr1, addE_len])
      have HCL : Hid ((cc x).length = x.length) := Lib.hid (by rw [hc2, addE_len, timesTo_len])
      obtain ⟨AX, cx, rfl⟩ := hrow.shape
      have HLR := Lib.hid hlr
      have HB := Lib.hid hbw
      clear hlr hbw hca hrow hq1 hr1 hq2 hc2
      go_wp2_with fail
      refine HRD.out.mono ?_
      rintro e w1 ⟨⟨rv, rfl, hor⟩, hb1⟩
      have HOR1 := Lib.hid hor
      have HB1 := Lib.hid (HB.out.trans (hb1.mono HB.out.size))
      have HLR1 := Lib.hid (HLR.out.below hb1)
      have HIZ := Lib.hid (isZero_any rv (r x) w1 hor.row)
      obtain ⟨AR, cr, rfl⟩ := hor.shape
      clear hor hb1
      by_cases hzb : zeroB (r x) = true
      · have HSE : Hid (selW p r cc x = []) := Lib.hid (by unfold selW; rw [if_pos hzb])
        rw [hzb] at HIZ
        clear hzb
        go_wp2_with fail
        refine HIZ.out.mono ?_
        rintro e w2 ⟨rfl, hb2⟩
        have HB2 := Lib.hid (HB1.out.trans (hb2.mono HB1.out.size))
        have HLR2 := Lib.hid (HLR1.out.below hb2)
        clear hb2
        go_wp2_with fail
        go_roundw
        case rel => exact ⟨k + 1, by omega, by go_num, by rw [HNX.out, HSE.out, List.append_nil]; exact HLR2.out, HB2.out⟩
        case measure => simp [intOf]; omega
      · have hzf : zeroB (r x) = false := by simpa using hzb
        have HSE : Hid (selW p r cc x = [r x]) := Lib.hid (by unfold selW; rw [if_neg hzb])
        rw [hzf] at HIZ
        clear hzb hzf
        go_wp2_with fail
        refine HIZ.out.mono ?_
        rintro e w2 ⟨rfl, hb2⟩
        have HB2 := Lib.hid (HB1.out.trans (hb2.mono HB1.out.size))
        have HLR2 := Lib.hid (HLR1.out.below hb2)
        have HOR2 := Lib.hid (HOR1.out.below hb2)
        clear hb2
        go_wp2_with fail
        refine (HIV.out _ HB2.out).mono ?_
        rintro e w3 ⟨⟨cv, rfl, hoc⟩, hb3⟩
        have HB3 := Lib.hid (HB2.out.trans (hb3.mono HB2.out.size))
        have HLR3 := Lib.hid (HLR2.out.below hb3)
        have HOR3 := Lib.hid (HOR2.out.below hb3)
        have HOC3 := Lib.hid hoc
        obtain ⟨AC, ccp, rfl⟩ := hoc.shape
        have HCH := Lib.hid (whole_any AP AR AC p.length (r x).length (cc x).length cp cr ccp w3)
        clear hb3 hoc
        go_wp2_with fail
        refine HCH.out.mono ?_
        rintro e w4 ⟨⟨g, rfl, hgc, hgl⟩, hb4⟩
        have HB4 := Lib.hid (HB3.out.trans (hb4.mono HB3.out.size))
        obtain ⟨vs, hown, hvs⟩ := HLR3.out.below hb4
        have HO := Lib.hid hown
        have HVS := Lib.hid hvs
        have HRO : Hid (RowsO w4 [Value.slice AR (r x).length cr] (selW p r cc x)) := Lib.hid (by
          rw [HSE.out]
          have hr4 := HOR3.out.below hb4
          have hc4 := HOC3.out.below hb4
          exact ⟨rfl, fun j y hj => by
            match j, hj with
            | 0, hj => cases hj; exact ⟨_, rfl, hr4⟩
            | j + 1, hj => simp at hj⟩)
        have hcells : ∀ (j : Nat) u, [Value.slice AR (r x).length cr][j]? = some u → w4.cell? ((⟨g, 0, Option.none⟩ : Addr).add j) = some u := fun j u hu => by
          rw [Lib.add_plain, Nat.zero_add, hgc.cell j]
          exact hu
        have hwk : w.heap.size ≤ w4.heap.size := HB4.out.size
        clear hb4 hown hvs hgc
        go_wp2_with (at_builtin; refine wpList_append_own _ rfl _ _ _ rfl w.heap.size 28 i0 (.slice Option.none 0 0) 1 24 Tryz.underlying27 hi0 hz0 hz1 hz2 rfl (by decide) _ _ _ rfl HO.out ⟨g, 0, Option.none⟩ 1 _ [Value.slice AR (r x).length cr] rfl rfl hcells (by intro u hu; rw [List.mem_singleton.1 hu]; rfl) (by unfold maxLen; omega) (by omega) hwk ?_; intro v3 w3 hown3 hg3 _)
        go_roundw
        case rel =>
          refine ⟨k + 1, by omega, by go_num, ?_, HB4.out.grown hg3 hwk (fun k hk => (HO.out.lt k hk).1)⟩
          rw [HNX.out]
          exact LRow.app HO.out HVS.out HRO.out hown3 hg3
        case measure => simp [intOf]; omega
    · obtain rfl : k = l.length := by omega
      obtain ⟨A1, c1, rfl⟩ := hlr.shape
      have HC := Lib.hid (HON.out _ p A1 c1 (selsW p r cc l l.length) wr (HS.out.below hbw (Nat.le_refl _)) (HP.out.lift hbw) (fun z hz => by
        unfold selsW at hz
        obtain ⟨x, hx, hz⟩ := List.mem_flatMap.1 hz
        have hx2 := List.mem_of_mem_take hx
        have hch := HOK.out.chk x hx2
        obtain ⟨k1, k2⟩ := chk_two hch
        unfold selW at hz
        split at hz
        · simp at hz
        · rw [List.mem_singleton.1 hz]; exact k1) HOK.out.pe (by omega) hlr.rows.2)
      have HB := Lib.hid hbw
      clear hlr hbw
      go_wp2_with fail
      refine HC.out.mono ?_
      rintro e w2 ⟨⟨A2, c2, rfl, hr2⟩, hb2⟩
      have HR2 := Lib.hid hr2
      have HB2 := Lib.hid (HB.out.trans (hb2.mono HB.out.size))
      clear hr2 hb2
      go_wp2_with fail
      go_ret2
      exact ⟨⟨A2, c2, rfl, HR2.out⟩, HB2.out⟩

def selP (_p : List Int) (r c : List Int → List Int) (x : List Int) : List (List Int) := if zeroB (r x) then [] else [r x, c x]
def selsP (p : List Int) (r c : List Int → List Int) (l : List (List Int)) (k : Nat) : List (List Int) := (l.take k).flatMap (selP p r c)
theorem selsP_next {p : List Int} {r c : List Int → List Int} {l : List (List Int)} {k : Nat} (hk : k < l.length) : selsP p r c l (k + 1) = selsP p r c l k ++ selP p r c (l[k]) := by
  unfold selsP
  rw [← List.take_append_getElem hk, List.flatMap_append]
  simp
theorem selsP_len (p : List Int) (r c : List Int → List Int) (l : List (List Int)) : ∀ k, (selsP p r c l k).length ≤ 2 * k
  | 0 => by simp [selsP]
  | k + 1 => by
    have ih := selsP_len p r c l k
    by_cases hk : k < l.length
    · rw [selsP_next hk, List.length_append]
      have : (selP p r c l[k]).length ≤ 2 := by unfold selP; split <;> simp
      omega
    · have e : selsP p r c l (k + 1) = selsP p r c l k := by unfold selsP; rw [List.take_of_length_le (by omega), List.take_of_length_le (by omega)]
      rw [e]; omega

set_option maxRecDepth 100000 in
set_option maxHeartbeats 4000000 in
theorem reducedP (hON : OnceC) (pv : Value) (p : List Int) (n : Nat) (A : Option Addr) (c : Nat) (l : List (List Int)) (r cc : List Int → List Int) (w : World) (hS : Std w) (hpv : IsRow w w.heap.size pv p) (hl : RowsAt w w.heap.size A l) (h : RdsOk p n l r cc) (hn : 2 * l.length ≤ 400) :
    Calls Tryz.prog 46 #[pv, .slice A l.length c, .func (.func 49) #[] #[]] w fun e w' => ListPost (onceL p (selsP p r cc l l.length)) e w' ∧ Below w.heap.size w w' := by
  obtain ⟨i0, hi0, hz0, hz1, hz2⟩ := info_parts Tryz.info_row
  have HON : Box OnceC := ⟨hON⟩
  have HS := Lib.hid hS
  have HP := Lib.hid hpv
  obtain ⟨AP, cp, rfl⟩ := hpv.shape
  have HL : Box (RowsAt w w.heap.size A l) := ⟨hl⟩
  have HOK : Box (RdsOk p n l r cc) := ⟨h⟩
  have hpe := fun (args : Array Value) (W : World) => enters_of (P := Tryz.prog) Tryz.func49 (by kernel_rfl) rfl args W
  clear hON hS hpv hl h
  go_enter Tryz.func46, Tryz.ntmps46
  go_wp2_with fail
  go_loopw [8, 18] (fun o i wr => ∃ (k : Nat), k ≤ l.length ∧ i = .int .i64 k ∧ LRow wr w.heap.size o (selsP p r cc l k) ∧ Below w.heap.size w wr) (fun _ i _ => l.length - (intOf i).toNat)
  case atStart => exact ⟨0, Nat.zero_le _, rfl, LRow.nil _ _, Below.refl _ _⟩
  case round =>
    obtain ⟨k, hk, rfl, hlr, hbw⟩ := hrel
    have hsl := selsP_len p r cc l k
    by_cases hlt : k < l.length
    · obtain ⟨ad, xv, rfl, hab, hca, hrow⟩ := HL.out.get k l[k] (List.getElem?_eq_getElem hlt)
      have hca' := (hbw.cell (p := ad.add k) (by rw [add_block]; exact hab)).trans hca
      have HMK := Lib.hid (List.getElem_mem hlt)
      have HNX := Lib.hid (selsP_next (p := p) (r := r) (c := cc) hlt)
      generalize l[k]'hlt = x at *
      obtain ⟨q1, hq1, hr1⟩ := HOK.out.red x HMK.out
      obtain ⟨q2, hq2, hc2⟩ := HOK.out.inv x HMK.out
      have HRD := Lib.hid (ivReduce _ xv p x n q1 wr (HS.out.below hbw (Nat.le_refl _)) (HP.out.lift hbw) (hrow.lift hbw) hq1)
      have HIV := Lib.hid (fun W hb => ivInverse _ xv p x n q2 W (HS.out.below (w := w) (B := w.heap.size) hb (Nat.le_refl _)) (HP.out.lift hb) (hrow.lift hb) hq1.cx hq2)
      rw [← hr1] at HRD
      rw [← hc2] at HIV
      have HRL : Hid ((r x).length = x.length) := Lib.hid (by rw [hr1, addE_len])
      have HCL : Hid ((cc x).length = x.length) := Lib.hid (by rw [hc2, addE_len, timesTo_len])
      obtain ⟨AX, cx, rfl⟩ := hrow.shape
      have HLR := Lib.hid hlr
      have HB := Lib.hid hbw
      clear hlr hbw hca hrow hq1 hr1 hq2 hc2
      go_wp2_with fail
      refine HRD.out.mono ?_
      rintro e w1 ⟨⟨rv, rfl, hor⟩, hb1⟩
      have HOR1 := Lib.hid hor
      have HB1 := Lib.hid (HB.out.trans (hb1.mono HB.out.size))
      have HLR1 := Lib.hid (HLR.out.below hb1)
      have HIZ := Lib.hid (isZero_any rv (r x) w1 hor.row)
      obtain ⟨AR, cr, rfl⟩ := hor.shape
      clear hor hb1
      by_cases hzb : zeroB (r x) = true
      · have HSE : Hid (selP p r cc x = []) := Lib.hid (by unfold selP; rw [if_pos hzb])
        rw [hzb] at HIZ
        clear hzb
        go_wp2_with fail
        refine HIZ.out.mono ?_
        rintro e w2 ⟨rfl, hb2⟩
        have HB2 := Lib.hid (HB1.out.trans (hb2.mono HB1.out.size))
        have HLR2 := Lib.hid (HLR1.out.below hb2)
        clear hb2
        go_wp2_with fail
        go_roundw
        case rel => exact ⟨k + 1, by omega, by go_num, by rw [HNX.out, HSE.out, List.append_nil]; exact HLR2.out, HB2.out⟩
        case measure => simp [intOf]; omega
      · have hzf : zeroB (r x) = false := by simpa using hzb
        have HSE : Hid (selP p r cc x = [r x, cc x]) := Lib.hid (by unfold selP; rw [if_neg hzb])
        rw [hzf] at HIZ
        clear hzb hzf
        go_wp2_with fail
        refine HIZ.out.mono ?_
        rintro e w2 ⟨rfl, hb2⟩
        have HB2 := Lib.hid (HB1.out.trans (hb2.mono HB1.out.size))
        have HLR2 := Lib.hid (HLR1.out.below hb2)
        have HOR2 := Lib.hid (HOR1.out.below hb2)
        clear hb2
        go_wp2_with fail
        refine (HIV.out _ HB2.out).mono ?_
        rintro e w3 ⟨⟨cv, rfl, hoc⟩, hb3⟩
        have HB3 := Lib.hid (HB2.out.trans (hb3.mono HB2.out.size))
        have HLR3 := Lib.hid (HLR2.out.below hb3)
        have HOR3 := Lib.hid (HOR2.out.below hb3)
        have HOC3 := Lib.hid hoc
        obtain ⟨AC, ccp, rfl⟩ := hoc.shape
        have HCH := Lib.hid (pair_any AP AR AC p.length (r x).length (cc x).length cp cr ccp w3)
        clear hb3 hoc
        go_wp2_with fail
        refine HCH.out.mono ?_
        rintro e w4 ⟨⟨g, rfl, hgc, hgl⟩, hb4⟩
        have HB4 := Lib.hid (HB3.out.trans (hb4.mono HB3.out.size))
        obtain ⟨vs, hown, hvs⟩ := HLR3.out.below hb4
        have HO := Lib.hid hown
        have HVS := Lib.hid hvs
        have HRO : Hid (RowsO w4 [Value.slice AR (r x).length cr, Value.slice AC (cc x).length ccp] (selP p r cc x)) := Lib.hid (by
          rw [HSE.out]
          have hr4 := HOR3.out.below hb4
          have hc4 := HOC3.out.below hb4
          exact ⟨rfl, fun j y hj => by
            match j, hj with
            | 0, hj => cases hj; exact ⟨_, rfl, hr4⟩
            | 1, hj => cases hj; exact ⟨_, rfl, hc4⟩
            | j + 2, hj => simp at hj⟩)
        have hcells : ∀ (j : Nat) u, [Value.slice AR (r x).length cr, Value.slice AC (cc x).length ccp][j]? = some u → w4.cell? ((⟨g, 0, Option.none⟩ : Addr).add j) = some u := fun j u hu => by
          rw [Lib.add_plain, Nat.zero_add, hgc.cell j]
          exact hu
        have hwk : w.heap.size ≤ w4.heap.size := HB4.out.size
        clear hb4 hown hvs hgc
        go_wp2_with (at_builtin; refine wpList_append_own _ rfl _ _ _ rfl w.heap.size 28 i0 (.slice Option.none 0 0) 1 24 Tryz.underlying27 hi0 hz0 hz1 hz2 rfl (by decide) _ _ _ rfl HO.out ⟨g, 0, Option.none⟩ 2 _ [Value.slice AR (r x).length cr, Value.slice AC (cc x).length ccp] rfl rfl hcells (by intro u hu; simp at hu; rcases hu with rfl | rfl <;> rfl) (by unfold maxLen; omega) (by omega) hwk ?_; intro v3 w3 hown3 hg3 _)
        go_roundw
        case rel =>
          refine ⟨k + 1, by omega, by go_num, ?_, HB4.out.grown hg3 hwk (fun k hk => (HO.out.lt k hk).1)⟩
          rw [HNX.out]
          exact LRow.app HO.out HVS.out HRO.out hown3 hg3
        case measure => simp [intOf]; omega
    · obtain rfl : k = l.length := by omega
      obtain ⟨A1, c1, rfl⟩ := hlr.shape
      have HC := Lib.hid (HON.out _ p A1 c1 (selsP p r cc l l.length) wr (HS.out.below hbw (Nat.le_refl _)) (HP.out.lift hbw) (fun z hz => by
        unfold selsP at hz
        obtain ⟨x, hx, hz⟩ := List.mem_flatMap.1 hz
        have hx2 := List.mem_of_mem_take hx
        have hch := HOK.out.chk x hx2
        obtain ⟨k1, k2⟩ := chk_two hch
        unfold selP at hz
        split at hz
        · simp at hz
        · rcases List.mem_cons.1 hz with rfl | hz
          · exact k1
          · rw [List.mem_singleton.1 hz]; exact k2) HOK.out.pe (by omega) hlr.rows.2)
      have HB := Lib.hid hbw
      clear hlr hbw
      go_wp2_with fail
      refine HC.out.mono ?_
      rintro e w2 ⟨⟨A2, c2, rfl, hr2⟩, hb2⟩
      have HR2 := Lib.hid hr2
      have HB2 := Lib.hid (HB.out.trans (hb2.mono HB.out.size))
      clear hr2 hb2
      go_wp2_with fail
      go_ret2
      exact ⟨⟨A2, c2, rfl, HR2.out⟩, HB2.out⟩

def selL (p : List Int) (r c : List Int → List Int) (x : List Int) : List (List Int) := if zeroB (r x) then [] else [if ltR p (c x) (r x) then c x else r x]
def selsL (p : List Int) (r c : List Int → List Int) (l : List (List Int)) (k : Nat) : List (List Int) := (l.take k).flatMap (selL p r c)
theorem selsL_next {p : List Int} {r c : List Int → List Int} {l : List (List Int)} {k : Nat} (hk : k < l.length) : selsL p r c l (k + 1) = selsL p r c l k ++ selL p r c (l[k]) := by
  unfold selsL
  rw [← List.take_append_getElem hk, List.flatMap_append]
  simp
theorem selsL_len (p : List Int) (r c : List Int → List Int) (l : List (List Int)) : ∀ k, (selsL p r c l k).length ≤ 1 * k
  | 0 => by simp [selsL]
  | k + 1 => by
    have ih := selsL_len p r c l k
    by_cases hk : k < l.length
    · rw [selsL_next hk, List.length_append]
      have : (selL p r c l[k]).length ≤ 1 := by unfold selL; split <;> simp
      omega
    · have e : selsL p r c l (k + 1) = selsL p r c l k := by unfold selsL; rw [List.take_of_length_le (by omega), List.take_of_length_le (by omega)]
      rw [e]; omega

set_option maxRecDepth 100000 in
set_option maxHeartbeats 4000000 in
theorem reducedL (hON : OnceC) (pv : Value) (p : List Int) (n : Nat) (A : Option Addr) (c : Nat) (l : List (List Int)) (r cc : List Int → List Int) (w : World) (hS : Std w) (hpv : IsRow w w.heap.size pv p) (hl : RowsAt w w.heap.size A l) (h : RdsOk p n l r cc) (hn : 1 * l.length ≤ 400) :
    Calls Tryz.prog 46 #[pv, .slice A l.length c, .func (.func 48) #[] #[]] w fun e w' => ListPost (onceL p (selsL p r cc l l.length)) e w' ∧ Below w.heap.size w w' := by
  obtain ⟨i0, hi0, hz0, hz1, hz2⟩ := info_parts Tryz.info_row
  have HON : Box OnceC := ⟨hON⟩
  have HS := Lib.hid hS
  have HP := Lib.hid hpv
  obtain ⟨AP, cp, rfl⟩ := hpv.shape
  have HL : Box (RowsAt w w.heap.size A l) := ⟨hl⟩
  have HOK : Box (RdsOk p n l r cc) := ⟨h⟩
  have hpe := fun (args : Array Value) (W : World) => enters_of (P := Tryz.prog) Tryz.func48 (by kernel_rfl) rfl args W
  clear hON hS hpv hl h
  go_enter Tryz.func46, Tryz.ntmps46
  go_wp2_with fail
  go_loopw [8, 18] (fun o i wr => ∃ (k : Nat), k ≤ l.length ∧ i = .int .i64 k ∧ LRow wr w.heap.size o (selsL p r cc l k) ∧ Below w.heap.size w wr) (fun _ i _ => l.length - (intOf i).toNat)
  case atStart => exact ⟨0, Nat.zero_le _, rfl, LRow.nil _ _, Below.refl _ _⟩
  case round =>
    obtain ⟨k, hk, rfl, hlr, hbw⟩ := hrel
    have hsl := selsL_len p r cc l k
    by_cases hlt : k < l.length
    · obtain ⟨ad, xv, rfl, hab, hca, hrow⟩ := HL.out.get k l[k] (List.getElem?_eq_getElem hlt)
      have hca' := (hbw.cell (p := ad.add k) (by rw [add_block]; exact hab)).trans hca
      have HMK := Lib.hid (List.getElem_mem hlt)
      have HNX := Lib.hid (selsL_next (p := p) (r := r) (c := cc) hlt)
      generalize l[k]'hlt = x at *
      obtain ⟨q1, hq1, hr1⟩ := HOK.out.red x HMK.out
      obtain ⟨q2, hq2, hc2⟩ := HOK.out.inv x HMK.out
      have HRD := Lib.hid (ivReduce _ xv p x n q1 wr (HS.out.below hbw (Nat.le_refl _)) (HP.out.lift hbw) (hrow.lift hbw) hq1)
      have HIV := Lib.hid (fun W hb => ivInverse _ xv p x n q2 W (HS.out.below (w := w) (B := w.heap.size) hb (Nat.le_refl _)) (HP.out.lift hb) (hrow.lift hb) hq1.cx hq2)
      rw [← hr1] at HRD
      rw [← hc2] at HIV
      have HRL : Hid ((r x).length = x.length) := Lib.hid (by rw [hr1, addE_len])
      have HCL : Hid ((cc x).length = x.length) := Lib.hid (by rw [hc2, addE_len, timesTo_len])
      obtain ⟨AX, cx, rfl⟩ := hrow.shape
      have HLR := Lib.hid hlr
      have HB := Lib.hid hbw
      clear hlr hbw hca hrow hq1 hr1 hq2 hc2
      go_wp2_with fail
      refine HRD.out.mono ?_
      rintro e w1 ⟨⟨rv, rfl, hor⟩, hb1⟩
      have HOR1 := Lib.hid hor
      have HB1 := Lib.hid (HB.out.trans (hb1.mono HB.out.size))
      have HLR1 := Lib.hid (HLR.out.below hb1)
      have HIZ := Lib.hid (isZero_any rv (r x) w1 hor.row)
      obtain ⟨AR, cr, rfl⟩ := hor.shape
      clear hor hb1
      by_cases hzb : zeroB (r x) = true
      · have HSE : Hid (selL p r cc x = []) := Lib.hid (by unfold selL; rw [if_pos hzb])
        rw [hzb] at HIZ
        clear hzb
        go_wp2_with fail
        refine HIZ.out.mono ?_
        rintro e w2 ⟨rfl, hb2⟩
        have HB2 := Lib.hid (HB1.out.trans (hb2.mono HB1.out.size))
        have HLR2 := Lib.hid (HLR1.out.below hb2)
        clear hb2
        go_wp2_with fail
        go_roundw
        case rel => exact ⟨k + 1, by omega, by go_num, by rw [HNX.out, HSE.out, List.append_nil]; exact HLR2.out, HB2.out⟩
        case measure => simp [intOf]; omega
      · have hzf : zeroB (r x) = false := by simpa using hzb
        have HSE : Hid (selL p r cc x = [if ltR p (cc x) (r x) then cc x else r x]) := Lib.hid (by unfold selL; rw [if_neg hzb])
        rw [hzf] at HIZ
        clear hzb hzf
        go_wp2_with fail
        refine HIZ.out.mono ?_
        rintro e w2 ⟨rfl, hb2⟩
        have HB2 := Lib.hid (HB1.out.trans (hb2.mono HB1.out.size))
        have HLR2 := Lib.hid (HLR1.out.below hb2)
        have HOR2 := Lib.hid (HOR1.out.below hb2)
        clear hb2
        go_wp2_with fail
        refine (HIV.out _ HB2.out).mono ?_
        rintro e w3 ⟨⟨cv, rfl, hoc⟩, hb3⟩
        have HB3 := Lib.hid (HB2.out.trans (hb3.mono HB2.out.size))
        have HLR3 := Lib.hid (HLR2.out.below hb3)
        have HOR3 := Lib.hid (HOR2.out.below hb3)
        have HOC3 := Lib.hid hoc
        obtain ⟨AC, ccp, rfl⟩ := hoc.shape
        have HCH := Lib.hid (lesser_any AP AR AC cp cr ccp p (r x) (cc x) w3 (HS.out.below HB3.out (Nat.le_refl _)) (HP.out.lift HB3.out) HOR3.out.row hoc.row (HOK.out.chk x HMK.out))
        clear hb3 hoc
        go_wp2_with fail
        refine HCH.out.mono ?_
        rintro e w4 ⟨⟨g, rfl, hgc, hgl⟩, hb4⟩
        have HB4 := Lib.hid (HB3.out.trans (hb4.mono HB3.out.size))
        obtain ⟨vs, hown, hvs⟩ := HLR3.out.below hb4
        have HO := Lib.hid hown
        have HVS := Lib.hid hvs
        have HRO : Hid (RowsO w4 [if ltR p (cc x) (r x) then Value.slice AC (cc x).length ccp else Value.slice AR (r x).length cr] (selL p r cc x)) := Lib.hid (by
          rw [HSE.out]
          have hr4 := HOR3.out.below hb4
          have hc4 := HOC3.out.below hb4
          exact ⟨rfl, fun j y hj => by
            match j, hj with
            | 0, hj =>
              cases hj
              refine ⟨_, rfl, ?_⟩
              split
              · exact hc4
              · exact hr4
            | j + 1, hj => simp at hj⟩)
        have hcells : ∀ (j : Nat) u, [if ltR p (cc x) (r x) then Value.slice AC (cc x).length ccp else Value.slice AR (r x).length cr][j]? = some u → w4.cell? ((⟨g, 0, Option.none⟩ : Addr).add j) = some u := fun j u hu => by
          rw [Lib.add_plain, Nat.zero_add, hgc.cell j]
          exact hu
        have hwk : w.heap.size ≤ w4.heap.size := HB4.out.size
        clear hb4 hown hvs hgc
        go_wp2_with (at_builtin; refine wpList_append_own _ rfl _ _ _ rfl w.heap.size 28 i0 (.slice Option.none 0 0) 1 24 Tryz.underlying27 hi0 hz0 hz1 hz2 rfl (by decide) _ _ _ rfl HO.out ⟨g, 0, Option.none⟩ 1 _ [if ltR p (cc x) (r x) then Value.slice AC (cc x).length ccp else Value.slice AR (r x).length cr] rfl rfl hcells (by intro u hu; rw [List.mem_singleton.1 hu]; split <;> rfl) (by unfold maxLen; omega) (by omega) hwk ?_; intro v3 w3 hown3 hg3 _)
        go_roundw
        case rel =>
          refine ⟨k + 1, by omega, by go_num, ?_, HB4.out.grown hg3 hwk (fun k hk => (HO.out.lt k hk).1)⟩
          rw [HNX.out]
          exact LRow.app HO.out HVS.out HRO.out hown3 hg3
        case measure => simp [intOf]; omega
    · obtain rfl : k = l.length := by omega
      obtain ⟨A1, c1, rfl⟩ := hlr.shape
      have HC := Lib.hid (HON.out _ p A1 c1 (selsL p r cc l l.length) wr (HS.out.below hbw (Nat.le_refl _)) (HP.out.lift hbw) (fun z hz => by
        unfold selsL at hz
        obtain ⟨x, hx, hz⟩ := List.mem_flatMap.1 hz
        have hx2 := List.mem_of_mem_take hx
        have hch := HOK.out.chk x hx2
        obtain ⟨k1, k2⟩ := chk_two hch
        unfold selL at hz
        split at hz
        · simp at hz
        · rw [List.mem_singleton.1 hz]; split
          · exact k2
          · exact k1) HOK.out.pe (by omega) hlr.rows.2)
      have HB := Lib.hid hbw
      clear hlr hbw
      go_wp2_with fail
      refine HC.out.mono ?_
      rintro e w2 ⟨⟨A2, c2, rfl, hr2⟩, hb2⟩
      have HR2 := Lib.hid hr2
      have HB2 := Lib.hid (HB.out.trans (hb2.mono HB.out.size))
      clear hr2 hb2
      go_wp2_with fail
      go_ret2
      exact ⟨⟨A2, c2, rfl, HR2.out⟩, HB2.out⟩

end Go.Proofs.YtcfkclafpbaagaaGreatDoor

namespace Go.Proofs.YtcfkclafpbaagaaGreatDoor
open Go.RowKit Go.Lib

/-- What between needs of the rows. -/
structure PrsOk (p : List Int) (l : List (List Int)) : Prop where
  len : l.length ≤ 20
  row : ∀ x ∈ l, x.length = p.length ∧ rowChk x = 0
  sub : ∀ x ∈ l, ∀ y ∈ l, rowChk (subR x y) = 0 ∧ chkAll p [subR x y] = 0

set_option maxRecDepth 100000 in
set_option maxHeartbeats 4000000 in
theorem between_any (hON : OnceC) (pv : Value) (p : List Int) (A : Option Addr) (c : Nat) (l : List (List Int)) (w : World) (hS : Std w) (hpv : IsRow w w.heap.size pv p) (hp : primeErr p = 0) (hl : RowsAt w w.heap.size A l) (h : PrsOk p l) :
    Calls Tryz.prog 52 #[pv, .slice A l.length c] w fun e w' => ListPost (onceL p (prsR l)) e w' ∧ Below w.heap.size w w' := by
  obtain ⟨i0, hi0, hz0, hz1, hz2⟩ := info_parts Tryz.info_row
  have HON : Box OnceC := ⟨hON⟩
  have HS := Lib.hid hS
  have HP := Lib.hid hpv
  have HPE := Lib.hid hp
  obtain ⟨AP, cp, rfl⟩ := hpv.shape
  have HL : Box (RowsAt w w.heap.size A l) := ⟨hl⟩
  have HOK : Box (PrsOk p l) := ⟨h⟩
  have hn := h.len
  clear hON hS hpv hp hl h
  go_enter Tryz.func52, Tryz.ntmps52
  go_wp2_with fail
  go_loopw [6, 15] (fun o i wr => ∃ (k : Nat), k ≤ l.length ∧ i = .int .i64 k ∧ LRow wr w.heap.size o (prsTo l k 0) ∧ Below w.heap.size w wr) (fun _ i _ => l.length - (intOf i).toNat)
  case atStart => exact ⟨0, Nat.zero_le _, rfl, by rw [prsTo_zero]; exact LRow.nil _ _, Below.refl _ _⟩
  case round =>
    obtain ⟨i, hi, rfl, hlr, hbw⟩ := hrel
    by_cases hlt : i < l.length
    · obtain ⟨ad, xv, rfl, hab, hca, hrow⟩ := HL.out.get i l[i] (List.getElem?_eq_getElem hlt)
      have hca' := (hbw.cell (p := ad.add i) (by rw [add_block]; exact hab)).trans hca
      have HXI := Lib.hid (List.getElem?_eq_getElem hlt)
      have HMI := Lib.hid (List.getElem_mem hlt)
      generalize l[i]'hlt = x at *
      have HX := Lib.hid hrow
      obtain ⟨AX, cx, rfl⟩ := hrow.shape
      have HLR := Lib.hid hlr
      have HB := Lib.hid hbw
      clear hlr hbw hca hrow
      go_wp2_with fail
      go_loopw [6, 21] (fun o j wr => ∃ (k : Nat), k ≤ l.length ∧ j = .int .i64 k ∧ LRow wr w.heap.size o (prsTo l i k) ∧ Below w.heap.size w wr) (fun _ j _ => l.length - (intOf j).toNat)
      case atStart => exact ⟨0, Nat.zero_le _, rfl, HLR.out, HB.out⟩
      case round =>
        clear HLR HB hca'
        obtain ⟨k, hk, rfl, hlr, hbw⟩ := hrel
        by_cases hltk : k < l.length
        · obtain ⟨ad2, yv, e2, hab2, hca2, hrow2⟩ := HL.out.get k l[k] (List.getElem?_eq_getElem hltk)
          cases e2
          have hca2' := (hbw.cell (p := ad.add k) (by rw [add_block]; exact hab2)).trans hca2
          have HNX := Lib.hid (prsTo_next (i := i) hltk)
          have HMK := Lib.hid (List.getElem_mem hltk)
          have hgi : l[i]?.getD [] = x := by rw [HXI.out]; rfl
          rw [hgi] at HNX
          have hpl := prsTo_len l i k hi hk
          have hplb : (prsTo l i k).length ≤ 420 := by
            rw [hpl]
            have : i * l.length ≤ 20 * 20 := Nat.mul_le_mul (by omega) hn
            omega
          generalize l[k]'hltk = y at *
          obtain ⟨h1, h2⟩ := HOK.out.row x HMI.out
          obtain ⟨h3, h4⟩ := HOK.out.row y HMK.out
          have HSB := Lib.hid (rowSub_any _ yv x y wr (by omega) (HX.out.lift hbw) (hrow2.lift hbw) (HOK.out.sub x HMI.out y HMK.out).1 h2 h4)
          obtain ⟨AY, cy, rfl⟩ := hrow2.shape
          have HLR := Lib.hid hlr
          have HB := Lib.hid hbw
          have HSL : Hid ((subR x y).length = x.length) := Lib.hid (subR_len (by omega))
          clear hlr hbw hca2 hrow2 h1 h2 h3 h4 hpl hgi
          go_wp2_with fail
          refine HSB.out.mono ?_
          rintro e w2 ⟨⟨A2, c2, rfl, hor⟩, hb2⟩
          obtain ⟨vs, hown, hvs⟩ := HLR.out.below hb2
          have HB2 := Lib.hid (HB.out.trans (hb2.mono HB.out.size))
          have hwk : w.heap.size ≤ w2.heap.size := HB2.out.size
          have HO := Lib.hid hown
          have HVS := Lib.hid hvs
          have HOR := Lib.hid hor
          clear hb2 hown hvs hor
          go_wp2_with (at_builtin; refine wpList_append_own _ rfl _ _ _ rfl w.heap.size 28 i0 (.slice Option.none 0 0) 1 24 Tryz.underlying27 hi0 hz0 hz1 hz2 rfl (by decide) _ _ _ rfl (HO.out.alloc _) ⟨w2.heap.size, 0, Option.none⟩ 1 1 [_] rfl rfl (cell_one_new _ _ _) (by intro u hu; simp at hu; subst hu; rfl) (by unfold maxLen; omega) (by omega) (by simp; omega) ?_; intro v3 w3 hown3 hg3 _)
          go_roundw
          case rel =>
            refine ⟨k + 1, by omega, by go_num, ?_, (HB2.out.alloc hwk _).grown hg3 (by simp; omega) (fun k hk => (HO.out.lt k hk).1)⟩
            rw [HNX.out]
            refine LRow.snoc (HO.out.alloc _) (fun j z hz => ?_) (HOR.out.alloc _) hown3 hg3
            obtain ⟨u, h5, h6⟩ := HVS.out j z hz
            exact ⟨u, h5, h6.alloc _⟩
          case measure => simp [intOf]; omega
        · obtain rfl : k = l.length := by omega
          rw [prsTo_row hlt] at hlr
          have HLR := Lib.hid hlr
          have HB := Lib.hid hbw
          clear hlr hbw
          go_wp2_with fail
          go_roundw
          case rel => exact ⟨i + 1, by omega, by go_num, HLR.out, HB.out⟩
          case measure => simp [intOf]; omega
    · obtain rfl : i = l.length := by omega
      rw [prsTo_all] at hlr
      have hpl := prsTo_len l l.length 0 (Nat.le_refl _) (Nat.zero_le _)
      rw [prsTo_all] at hpl
      obtain ⟨A1, c1, rfl⟩ := hlr.shape
      have hplb : (prsR l).length ≤ 400 := by
        have : l.length * l.length ≤ 20 * 20 := Nat.mul_le_mul hn hn
        omega
      have HC := Lib.hid (HON.out _ p A1 c1 (prsR l) wr (HS.out.below hbw (Nat.le_refl _)) (HP.out.lift hbw) (fun z hz => by
        unfold prsR at hz
        obtain ⟨x, hx, hz⟩ := List.mem_flatMap.1 hz
        obtain ⟨y, hy, rfl⟩ := List.mem_map.1 hz
        exact (HOK.out.sub x hx y hy).2) HPE.out hplb hlr.rows.2)
      have HB := Lib.hid hbw
      clear hlr hbw hpl
      go_wp2_with fail
      refine HC.out.mono ?_
      rintro e w2 ⟨⟨A2, c2, rfl, hr2⟩, hb2⟩
      have HR2 := Lib.hid hr2
      have HB2 := Lib.hid (HB.out.trans (hb2.mono HB.out.size))
      clear hr2 hb2
      go_wp2_with fail
      go_ret2
      exact ⟨⟨A2, c2, rfl, HR2.out⟩, HB2.out⟩

end Go.Proofs.YtcfkclafpbaagaaGreatDoor
