/- The law's reader of tokens: what it holds; is. The law's reader of tokens: fail. The law's reader of tokens: take. The law's reader of tokens: take where the token is another one. The law's reader of tokens: its steps as functions of its state. -/
import Derived.Test.YtaaeekahhhookaaGreatDoorGXAMTk
import Derived.Test.YtaaeekahhhookaaGreatDoorGXPMTk
import Derived.Test.YtaaeekahhhookaaGreatDoorGXGTk
import Derived.BigQuiet
import Derived.Test.YtaaeekahhhookaaGreatDoorGTATk
import Derived.Deep.RegionHeld3
namespace Go.Proofs.YtaaeekahhhookaaGreatDoor
open Go.RowKit Go.Lib

/-- Tokens to be read: typed blocks. -/
def TkQ (w : World) (B : Nat) (t : Tok) (cs : List Value) : Prop := ∃ v, cs = tokVals t v ∧ IRow w B v t.row
abbrev TkT (w : World) (B : Nat) (A : Option Addr) (l : List Tok) : Prop := LT 92 7 (TkQ w B) w B A l
theorem TkQ.keep {E : List TypeId} {B B' : Nat} {w w' : World} (hk : KpT E B w w') (h1 : 3 ∉ E) (hB : B ≤ B') {x : Tok} {cs : List Value} (h : TkQ w B x cs) : TkQ w' B' x cs := by
 obtain ⟨v, e, h⟩ := h
 exact ⟨v, e, h.keep hk h1 hB⟩
theorem TkT.kpt {E : List TypeId} {B B' : Nat} {w w' : World} {A : Option Addr} {l : List Tok} (h : TkT w B A l) (hk : KpT E B w w') (h1 : 3 ∉ E) (h2 : 92 ∉ E) (hB : B ≤ B') : TkT w' B' A l := LT.keep h hk h2 hB fun _ _ _ h => h.keep hk h1 hB
theorem TkT.lift {w w' : World} {A : Option Addr} {l : List Tok} (h : TkT w w.heap.size A l) (hb : Below w.heap.size w w') : TkT w' w'.heap.size A l := h.kpt (E := []) (KpT.of_below hb) (by simp) (by simp) hb.size
theorem TkT.at_ {w : World} {B : Nat} {A : Option Addr} {l : List Tok} (h : TkT w B A l) {k : Nat} (hk : k < l.length) : ∃ b o v, A = some ⟨b, o, Option.none⟩ ∧ b < B ∧ TyB w b 92 ∧ IRow w B v (l[k]'hk).row ∧ w.cell? ⟨b, o + k * 7, Option.none⟩ = some (.int .i64 (l[k]'hk).kind) ∧ w.cell? ⟨b, o + k * 7 + 1, Option.none⟩ = some (.string ⟨(l[k]'hk).text.toArray⟩) ∧ w.cell? ⟨b, o + k * 7 + 2, Option.none⟩ = some (.string ⟨(l[k]'hk).num.toArray⟩) ∧ w.cell? ⟨b, o + k * 7 + 3, Option.none⟩ = some (.string ⟨(l[k]'hk).den.toArray⟩) ∧ w.cell? ⟨b, o + k * 7 + 4, Option.none⟩ = some v ∧ w.cell? ⟨b, o + k * 7 + 5, Option.none⟩ = some (.int .i64 (l[k]'hk).line) ∧ w.cell? ⟨b, o + k * 7 + 6, Option.none⟩ = some (.int .i64 (l[k]'hk).col) := by
 obtain ⟨b, o, cs, e, h1, h2, h3, h4, v, rfl, h5⟩ := h.get k _ (List.getElem?_eq_getElem hk)
 exact ⟨b, o, v, e, h1, h2, h5, h4 0 (by decide), h4 1 (by decide), h4 2 (by decide), h4 3 (by decide), h4 4 (by decide), h4 5 (by decide), h4 6 (by decide)⟩
/-- The cells of the reader. -/
def rdC (A : Option Addr) (n c k : Nat) (ln co e : Int) : List Value := [.slice A n c, .int .i64 k, .int .i64 ln, .int .i64 co, .int .i64 e]
theorem cel5 {w : World} {g : Nat} {T : TypeId} {a b c d e : Value} (h : Cells w g T [a, b, c, d, e]) : w.cell? ⟨g, 0, Option.none⟩ = some a ∧ w.cell? ⟨g, 1, Option.none⟩ = some b ∧ w.cell? ⟨g, 2, Option.none⟩ = some c ∧ w.cell? ⟨g, 3, Option.none⟩ = some d ∧ w.cell? ⟨g, 4, Option.none⟩ = some e := ⟨h.cell 0, h.cell 1, h.cell 2, h.cell 3, h.cell 4⟩
/-- Is the token at k of a kind, and has it a text (if one is given)? -/
def isB (l : List Tok) (e : Int) (k : Nat) (q : Int) (s : List UInt8) : Bool := (e == 0) && (if s.isEmpty then kindAt l k q else textAt l k q s)

set_option maxRecDepth 100000 in
set_option maxHeartbeats 8000000 in
theorem isL_any (r k c : Nat) (A : Option Addr) (l : List Tok) (ln co e q : Int) (s : List UInt8) (w : World) (h : Cells w r 90 (rdC A l.length c k ln co e)) (ht : TkT w w.heap.size A l) (hk : k ≤ l.length) :
 Calls Tryz.prog 29 #[.pointer (some ⟨r, 0, Option.none⟩), .int .i64 q, .string ⟨s.toArray⟩] w fun e' w' => e' = .returned (.bool (isB l e k q s)) ∧ Below w.heap.size w w' := by
 obtain ⟨c0, c1, c2, c3, c4⟩ := cel5 h
 have HIS : Box (isB l e k q s = ((e == 0) && (if s.isEmpty then kindAt l k q else textAt l k q s))) := ⟨rfl⟩
 have hki : (0 : Int) ≤ (k : Int) := by omega
 cases he : (e == 0) with
 | false =>
   have HF : Box (isB l e k q s = false) := ⟨by rw [HIS.out, he]; rfl⟩
   generalize isB l e k q s = out at *
   clear HIS h ht
   go_enter Tryz.func29, Tryz.ntmps29
   go_wp2_with fail
   go_quiet (fail)
   go_wp2_with fail
   go_ret
   exact ⟨ret1 (congrArg Value.bool HF.out.symm), below_drewN (Below.refl _ _) _⟩
 | true =>
   by_cases hlt : k < l.length
   ·have hlti : (k : Int) < (l.length : Int) := by omega
    obtain ⟨b1, o1, rv, rfl, _, _, _, p0, p1, _⟩ := ht.at_ hlt
    have HK : Box (kindAt l k q = ((l[k]'hlt).kind == q)) := ⟨by unfold kindAt; rw [List.getElem?_eq_getElem hlt]⟩
    have HT : Box (textAt l k q s = (((l[k]'hlt).kind == q) && ((l[k]'hlt).text == s))) := ⟨by unfold textAt; rw [List.getElem?_eq_getElem hlt]⟩
    have HI2 : Box (isB l e k q s = (((l[k]'hlt).kind == q) && (if s.isEmpty then true else ((l[k]'hlt).text == s)))) := ⟨by
     rw [HIS.out, he, HK.out, HT.out, Bool.true_and]
     cases s.isEmpty <;> simp⟩
    generalize isB l e k q s = out at *
    generalize l[k]'hlt = t at *
    obtain ⟨k0, x0, n0, d0, ro, l0, o0⟩ := t
    dsimp only at *
    clear HIS HK HT h ht
    cases hq : (k0 == q) with
    | false =>
      have HF : Box (out = false) := ⟨by rw [HI2.out, hq]; rfl⟩
      clear HI2
      go_enter Tryz.func29, Tryz.ntmps29
      go_wp2_with fail
      go_quiet (fail)
      go_wp2_with fail
      go_ret
      exact ⟨ret1 (congrArg Value.bool HF.out.symm), below_drewN (Below.refl _ _) _⟩
    | true =>
      cases hs : s.isEmpty with
      | true =>
        obtain rfl : s = [] := by simpa using hs
        have HF : Box (out = true) := ⟨by rw [HI2.out, hq, hs]; rfl⟩
        clear HI2 hs
        go_enter Tryz.func29, Tryz.ntmps29
        go_wp2_with fail
        go_quiet (fail)
        go_wp2_with fail
        go_ret
        exact ⟨ret1 (congrArg Value.bool HF.out.symm), below_drewN (Below.refl _ _) _⟩
      | false =>
        have HF : Box (out = (x0 == s)) := ⟨by rw [HI2.out, hq, hs]; rfl⟩
        have h0' : s.isEmpty = false := hs
        clear HI2
        cases hx : (x0 == s) with
        | true =>
          rw [hx] at HF
          go_enter Tryz.func29, Tryz.ntmps29
          go_wp2_with fail
          go_quiet (fail)
          go_wp2_with fail
          go_ret
          exact ⟨ret1 (congrArg Value.bool HF.out.symm), below_drewN (Below.refl _ _) _⟩
        | false =>
          rw [hx] at HF
          go_enter Tryz.func29, Tryz.ntmps29
          go_wp2_with fail
          go_quiet (fail)
          go_wp2_with fail
          go_ret
          exact ⟨ret1 (congrArg Value.bool HF.out.symm), below_drewN (Below.refl _ _) _⟩
   ·have HF : Box (isB l e k q s = false) := ⟨by
     have h1 : l[k]? = Option.none := List.getElem?_eq_none (by omega)
     have h2 : kindAt l k q = false := by unfold kindAt; rw [h1]
     have h3 : textAt l k q s = false := by unfold textAt; rw [h1]
     rw [HIS.out, he, h2, h3]
     cases s.isEmpty <;> rfl⟩
    have hlti : ¬ (k : Int) < (l.length : Int) := by omega
    generalize isB l e k q s = out at *
    clear HIS h ht
    go_enter Tryz.func29, Tryz.ntmps29
    go_wp2_with fail
    go_quiet (fail)
    go_wp2_with fail
    go_ret
    exact ⟨ret1 (congrArg Value.bool HF.out.symm), below_drewN (Below.refl _ _) _⟩

end Go.Proofs.YtaaeekahhhookaaGreatDoor

namespace Go.Proofs.YtaaeekahhhookaaGreatDoor
open Go.RowKit Go.Lib

/-- Only the reader (block r) may differ. -/
structure RK (r : Nat) (w w' : World) : Prop where
 low : Below r w w'
 kp : KpT [90] w.heap.size w w'
theorem RK.refl (r : Nat) (w : World) : RK r w w := ⟨Below.refl _ _, KpT.refl _ _ _⟩
theorem RK.of_below {r : Nat} {w w' : World} (h : Below w.heap.size w w') (hr : r ≤ w.heap.size) : RK r w w' := ⟨h.mono hr, KpT.of_below h⟩
theorem RK.trans {r : Nat} {w w1 w2 : World} (h : RK r w w1) (h2 : RK r w1 w2) : RK r w w2 := ⟨h.low.trans h2.low, h.kp.trans (h2.kp.mono h.kp.size)⟩
theorem RK.store {r j : Nat} {w w1 : World} {xs : List Value} (h : RK r w w1) (hc : Cells w1 r 90 xs) (v : Value) : RK r w (w1.setCell ⟨r, j, Option.none⟩ v) := ⟨h.low.setCell (Nat.le_refl _) v, h.kp.setCell (TyB.of_cells hc) (by simp) v⟩
theorem RK.tk {r : Nat} {w w' : World} {A : Option Addr} {l : List Tok} (h : RK r w w') (ht : TkT w w.heap.size A l) : TkT w' w'.heap.size A l := ht.kpt h.kp (by decide) (by decide) h.kp.size
/-- Where a fault lies. -/
def plL (l : List Tok) (k : Nat) : Int := if l.length = 0 then 1 else (fltAt l k 0).line
def plC (l : List Tok) (k : Nat) : Int := if l.length = 0 then 1 else (fltAt l k 0).col

set_option maxRecDepth 100000 in
set_option maxHeartbeats 8000000 in
theorem failL_any (r k c : Nat) (A : Option Addr) (l : List Tok) (ln co e er : Int) (w : World) (h : Cells w r 90 (rdC A l.length c k ln co e)) (ht : TkT w w.heap.size A l) (hk : k ≤ l.length) (hl : l.length ≤ 1000000) :
 Calls Tryz.prog 31 #[.pointer (some ⟨r, 0, Option.none⟩), .int .i64 er] w fun e' w' => e' = .returned (.tuple #[]) ∧ Cells w' r 90 (rdC A l.length c k (plL l k) (plC l k) er) ∧ RK r w w' := by
 obtain ⟨c0, c1, c2, c3, c4⟩ := cel5 h
 have f2 := h.free 2
 have f3 := h.free 3
 have f4 := h.free 4
 have hki : (0 : Int) ≤ (k : Int) := by omega
 -- the reader behind the first stores
 obtain ⟨W1, hW1⟩ : ∃ W1, W1 = ((w.setCell ⟨r, 4, Option.none⟩ (.int .i64 er)).setCell ⟨r, 2, Option.none⟩ (.int .i64 1)).setCell ⟨r, 3, Option.none⟩ (.int .i64 1) := ⟨_, rfl⟩
 have hc1 : Cells W1 r 90 (rdC A l.length c k 1 1 er) := by rw [hW1]; exact ((h.set 4 _).set 2 _).set 3 _
 have hk1 : RK r w W1 := by rw [hW1]; exact (((RK.refl r w).store h _).store (h.set 4 _) _).store ((h.set 4 _).set 2 _) _
 have HC := Lib.hid hc1
 have HK := Lib.hid hk1
 have HT := Lib.hid (hk1.tk ht)
 clear h ht
 by_cases h0 : l.length = 0
 ·have HP : Box (plL l k = 1 ∧ plC l k = 1) := ⟨by unfold plL plC; rw [if_pos h0, if_pos h0]; exact ⟨rfl, rfl⟩⟩
  obtain rfl : k = 0 := by omega
  generalize plL l 0 = p1 at *
  generalize plC l 0 = p2 at *
  obtain ⟨rfl, rfl⟩ := HP.out
  generalize l.length = n at *
  subst h0
  go_enter Tryz.func31, Tryz.ntmps31
  go_upto_region 1 with (fail)
  rw [← hW1]
  clear hW1 c0 c1 c2 c3 c4 f2 f3 f4
  obtain ⟨c0, c1, c2, c3, c4⟩ := cel5 HC.out
  go_quiet (fail)
  change (W1.drewN nq).cell? _ = _ at c0 c1 c2 c3 c4
  have HC2 : Hid (Cells (W1.drewN nq) r 90 (rdC A 0 c 0 1 1 er)) := Lib.hid (HC.out.drewN _)
  have HK2 : Hid (RK r w (W1.drewN nq)) := Lib.hid (HK.out.trans (RK.of_below (below_drewN (Below.refl _ _) _) (Nat.le_of_lt HC.out.lt)))
  go_wp2_with fail
  go_end0
  exact ⟨rfl, HC2.out, HK2.out⟩
 ·by_cases hlt : k < l.length
  ·have hlti : (k : Int) < (l.length : Int) := by omega
   obtain ⟨b1, o1, rv, rfl, hbl, hty, _, p0, p1, p2, p3, p4, p5, p6⟩ := HT.out.at_ hlt
   have hbr : b1 ≠ r := fun e => by
    subst e
    exact absurd (hty.one (TyB.of_cells HC.out)) (by decide)
   have HP : Box (plL l k = (l[k]'(by omega)).line ∧ plC l k = (l[k]'(by omega)).col) := ⟨by
    have e1 : min k (l.length - 1) = k := by omega
    have e2 : l[k]? = some (l[k]'(by omega)) := List.getElem?_eq_getElem (by omega)
    unfold plL plC fltAt
    rw [if_neg h0, if_neg h0, e1, e2]
    exact ⟨rfl, rfl⟩⟩
   generalize plL l k = q1 at *
   generalize plC l k = q2 at *
   generalize (l[k]'(by omega)) = t at *
   obtain ⟨k0, x0, n0, d0, ro, l0, o0⟩ := t
   dsimp only at *
   obtain ⟨rfl, rfl⟩ := HP.out
   clear hty hbl p0 p1 p2 p3 p4
   go_enter Tryz.func31, Tryz.ntmps31
   go_upto_region 1 with (fail)
   rw [← hW1]
   clear hW1 c0 c1 c2 c3 c4 f2 f3 f4
   obtain ⟨c0, c1, c2, c3, c4⟩ := cel5 HC.out
   go_quiet (fail)
   change (W1.drewN nq).cell? _ = _ at c0 c1 c2 c3 c4 p5 p6
   have HC2 : Hid (Cells (W1.drewN nq) r 90 (rdC (some ⟨b1, o1, Option.none⟩) l.length c k 1 1 er)) := Lib.hid (HC.out.drewN _)
   have HK2 : Hid (RK r w (W1.drewN nq)) := Lib.hid (HK.out.trans (RK.of_below (below_drewN (Below.refl _ _) _) (Nat.le_of_lt HC.out.lt)))
   generalize W1.drewN nq = W2 at *
   clear HC HK HT
   have hB : Below W2.heap.size W2 W2.drew := below_to_drew (Below.refl _ _)
   have f2 := HC2.out.free 2
   have f3 := HC2.out.free 3
   have hcd := HC2.out.below hB HC2.out.lt
   have g2 := hcd.free 2
   have g3 := hcd.free 3
   obtain ⟨_, _, d2, d3, _⟩ := cel5 hcd
   go_wp2_with fail
   go_region_held3 (fun w' => w'.cell? ⟨r, 0, Option.none⟩ = some (.slice (some ⟨b1, o1, Option.none⟩) l.length c) ∧ w'.cell? ⟨r, 1, Option.none⟩ = some (.int .i64 k) ∧ w'.cell? ⟨b1, o1 + k * 7 + 5, Option.none⟩ = some (.int .i64 q1) ∧ w'.cell? ⟨b1, o1 + k * 7 + 6, Option.none⟩ = some (.int .i64 q2))
    (first | exact ⟨keep_cell c0 hB, keep_cell c1 hB, keep_cell p5 hB, keep_cell p6 hB⟩ | exact ⟨((HC2.out.set 2 _).set 3 _).cell 0, ((HC2.out.set 2 _).set 3 _).cell 1, cell_set_far (cell_set_far p5 hbr) hbr, cell_set_far (cell_set_far p6 hbr) hbr⟩ | go_keep)
    ((first | fail))
   go_wp2_with fail
   go_end0
   exact ⟨rfl, ((HC2.out.set 2 _).set 3 _).drew, ((HK2.out.store HC2.out _).store (HC2.out.set 2 _) _).trans (RK.of_below (below_to_drew (Below.refl _ _)) (Nat.le_of_lt ((HC2.out.set 2 _).set 3 _).lt))⟩
  ·obtain rfl : k = l.length := by omega
   have hlti : ¬ (l.length : Int) < (l.length : Int) := by omega
   have hpos : (0 : Int) < (l.length : Int) := by omega
   have hw1 : IntKind.i64.wrap ((l.length : Int) - 1) = ((l.length - 1 : Nat) : Int) := by rw [show ((l.length : Int) - 1) = ((l.length - 1 : Nat) : Int) by omega]; exact IntWalk.i64_in _ (by omega)
   have hj0 : (0 : Int) ≤ ((l.length - 1 : Nat) : Int) := by omega
   have hj1 : ((l.length - 1 : Nat) : Int) < (l.length : Int) := by omega
   obtain ⟨b1, o1, rv, rfl, hbl, hty, _, p0, p1, p2, p3, p4, p5, p6⟩ := HT.out.at_ (show l.length - 1 < l.length by omega)
   have hbr : b1 ≠ r := fun e => by
    subst e
    exact absurd (hty.one (TyB.of_cells HC.out)) (by decide)
   have HP : Box (plL l l.length = (l[l.length - 1]'(by omega)).line ∧ plC l l.length = (l[l.length - 1]'(by omega)).col) := ⟨by
    have e1 : min l.length (l.length - 1) = l.length - 1 := by omega
    have e2 : l[l.length - 1]? = some (l[l.length - 1]'(by omega)) := List.getElem?_eq_getElem (by omega)
    unfold plL plC fltAt
    rw [if_neg h0, if_neg h0, e1, e2]
    exact ⟨rfl, rfl⟩⟩
   generalize plL l l.length = q1 at *
   generalize plC l l.length = q2 at *
   generalize (l[l.length - 1]'(by omega)) = t at *
   obtain ⟨k0, x0, n0, d0, ro, l0, o0⟩ := t
   dsimp only at *
   obtain ⟨rfl, rfl⟩ := HP.out
   clear hty hbl p0 p1 p2 p3 p4
   go_enter Tryz.func31, Tryz.ntmps31
   go_upto_region 1 with (fail)
   rw [← hW1]
   clear hW1 c0 c1 c2 c3 c4 f2 f3 f4
   obtain ⟨c0, c1, c2, c3, c4⟩ := cel5 HC.out
   go_quiet (fail)
   change (W1.drewN nq).cell? _ = _ at c0 c1 c2 c3 c4 p5 p6
   have HC2 : Hid (Cells (W1.drewN nq) r 90 (rdC (some ⟨b1, o1, Option.none⟩) l.length c l.length 1 1 er)) := Lib.hid (HC.out.drewN _)
   have HK2 : Hid (RK r w (W1.drewN nq)) := Lib.hid (HK.out.trans (RK.of_below (below_drewN (Below.refl _ _) _) (Nat.le_of_lt HC.out.lt)))
   generalize W1.drewN nq = W2 at *
   clear HC HK HT
   have hB : Below W2.heap.size W2 W2.drew := below_to_drew (Below.refl _ _)
   have f2 := HC2.out.free 2
   have f3 := HC2.out.free 3
   have hcd := HC2.out.below hB HC2.out.lt
   have g2 := hcd.free 2
   have g3 := hcd.free 3
   obtain ⟨_, _, d2, d3, _⟩ := cel5 hcd
   go_wp2_with fail
   go_region_held3 (fun w' => w'.cell? ⟨r, 0, Option.none⟩ = some (.slice (some ⟨b1, o1, Option.none⟩) l.length c) ∧ w'.cell? ⟨r, 1, Option.none⟩ = some (.int .i64 l.length) ∧ w'.cell? ⟨b1, o1 + (l.length - 1) * 7 + 5, Option.none⟩ = some (.int .i64 q1) ∧ w'.cell? ⟨b1, o1 + (l.length - 1) * 7 + 6, Option.none⟩ = some (.int .i64 q2))
    (first | exact ⟨keep_cell c0 hB, keep_cell c1 hB, keep_cell p5 hB, keep_cell p6 hB⟩ | exact ⟨((HC2.out.set 2 _).set 3 _).cell 0, ((HC2.out.set 2 _).set 3 _).cell 1, cell_set_far (cell_set_far p5 hbr) hbr, cell_set_far (cell_set_far p6 hbr) hbr⟩ | go_keep)
    ((first | fail))
   go_wp2_with fail
   go_end0
   exact ⟨rfl, ((HC2.out.set 2 _).set 3 _).drew, ((HK2.out.store HC2.out _).store (HC2.out.set 2 _) _).trans (RK.of_below (below_to_drew (Below.refl _ _)) (Nat.le_of_lt ((HC2.out.set 2 _).set 3 _).lt))⟩

end Go.Proofs.YtaaeekahhhookaaGreatDoor

namespace Go.Proofs.YtaaeekahhhookaaGreatDoor
open Go.RowKit Go.Lib

/-- A token's struct stored. -/
abbrev st7 (W : World) (g : Nat) (a0 a1 a2 a3 a4 a5 a6 : Value) : World := ((((((W.setCell ⟨g, 0, Option.none⟩ a0).setCell ⟨g, 1, Option.none⟩ a1).setCell ⟨g, 2, Option.none⟩ a2).setCell ⟨g, 3, Option.none⟩ a3).setCell ⟨g, 4, Option.none⟩ a4).setCell ⟨g, 5, Option.none⟩ a5).setCell ⟨g, 6, Option.none⟩ a6
theorem st7_far {W : World} {g : Nat} {a0 a1 a2 a3 a4 a5 a6 : Value} {q : Addr} {v : Value} (h : W.cell? q = some v) (hne : q.block ≠ g) : (st7 W g a0 a1 a2 a3 a4 a5 a6).cell? q = some v :=
 cell_set_far (cell_set_far (cell_set_far (cell_set_far (cell_set_far (cell_set_far (cell_set_far h hne) hne) hne) hne) hne) hne) hne
theorem drew_cell {W : World} {q : Addr} {v : Value} (h : W.cell? q = some v) : W.drew.cell? q = some v := h
theorem st7_farD {W : World} {g : Nat} {a0 a1 a2 a3 a4 a5 a6 : Value} {q : Addr} {v : Value} (h : W.cell? q = some v) (hne : q.block ≠ g) : (st7 W g a0 a1 a2 a3 a4 a5 a6).drew.cell? q = some v := drew_cell (st7_far h hne)
theorem st7_same {W : World} {g : Nat} {T : TypeId} {x0 x1 x2 x3 x4 x5 x6 a0 a1 a2 a3 a4 a5 a6 : Value} (h : Cells W g T [x0, x1, x2, x3, x4, x5, x6]) : Cells (st7 W g a0 a1 a2 a3 a4 a5 a6) g T [a0, a1, a2, a3, a4, a5, a6] := ((((((h.set 0 a0).set 1 a1).set 2 a2).set 3 a3).set 4 a4).set 5 a5).set 6 a6
theorem st7_below {w W : World} {s g : Nat} {a0 a1 a2 a3 a4 a5 a6 : Value} (hg : s ≤ g) (h : Below s w W) : Below s w (st7 W g a0 a1 a2 a3 a4 a5 a6) := ((((((h.setCell (p := ⟨g, 0, Option.none⟩) hg a0).setCell (p := ⟨g, 1, Option.none⟩) hg a1).setCell (p := ⟨g, 2, Option.none⟩) hg a2).setCell (p := ⟨g, 3, Option.none⟩) hg a3).setCell (p := ⟨g, 4, Option.none⟩) hg a4).setCell (p := ⟨g, 5, Option.none⟩) hg a5).setCell (p := ⟨g, 6, Option.none⟩) hg a6
theorem kpt_step {W V : World} {g B : Nat} {T : TypeId} {xs : List Value} (h : KpT [T] B W V) (hc : Cells V g T xs) (j : Nat) (a : Value) : KpT [T] B W (V.setCell ⟨g, j, Option.none⟩ a) := h.setCell (TyB.of_cells hc) (by simp) a
theorem st7_kpt {W : World} {g B : Nat} {T : TypeId} {x0 x1 x2 x3 x4 x5 x6 a0 a1 a2 a3 a4 a5 a6 : Value} (h : Cells W g T [x0, x1, x2, x3, x4, x5, x6]) : KpT [T] B W (st7 W g a0 a1 a2 a3 a4 a5 a6) :=
 kpt_step (kpt_step (kpt_step (kpt_step (kpt_step (kpt_step (kpt_step (KpT.refl [T] B W) h 0 a0) (h.set 0 a0) 1 a1) ((h.set 0 a0).set 1 a1) 2 a2) (((h.set 0 a0).set 1 a1).set 2 a2) 3 a3) ((((h.set 0 a0).set 1 a1).set 2 a2).set 3 a3) 4 a4) (((((h.set 0 a0).set 1 a1).set 2 a2).set 3 a3).set 4 a4) 5 a5) ((((((h.set 0 a0).set 1 a1).set 2 a2).set 3 a3).set 4 a4).set 5 a5) 6 a6
theorem cel7 {w : World} {g : Nat} {T : TypeId} {a b c d e f i : Value} (h : Cells w g T [a, b, c, d, e, f, i]) : w.cell? ⟨g, 0, Option.none⟩ = some a ∧ w.cell? ⟨g, 1, Option.none⟩ = some b ∧ w.cell? ⟨g, 2, Option.none⟩ = some c ∧ w.cell? ⟨g, 3, Option.none⟩ = some d ∧ w.cell? ⟨g, 4, Option.none⟩ = some e ∧ w.cell? ⟨g, 5, Option.none⟩ = some f ∧ w.cell? ⟨g, 6, Option.none⟩ = some i := ⟨h.cell 0, h.cell 1, h.cell 2, h.cell 3, h.cell 4, h.cell 5, h.cell 6⟩
theorem isB_lt {l : List Tok} {e : Int} {k : Nat} {q : Int} {s : List UInt8} (h : isB l e k q s = true) : e = 0 ∧ k < l.length := by
 unfold isB at h
 rw [Bool.and_eq_true] at h
 refine ⟨by simpa using h.1, ?_⟩
 rcases Nat.lt_or_ge k l.length with h1 | h1
 ·exact h1
 ·have h2 : l[k]? = Option.none := List.getElem?_eq_none h1
  have h3 := h.2
  unfold kindAt textAt at h3
  rw [h2] at h3
  cases hs : s.isEmpty <;> rw [hs] at h3 <;> simp at h3

set_option maxRecDepth 100000 in
set_option maxHeartbeats 8000000 in
theorem takeL_yes (r k c : Nat) (A : Option Addr) (l : List Tok) (ln co e q : Int) (s : List UInt8) (w : World) (h : Cells w r 90 (rdC A l.length c k ln co e)) (ht : TkT w w.heap.size A l) (hk : k < l.length) (hl : l.length ≤ 1000000) (hi : isB l e k q s = true) (t : Tok) (hte : l[k]? = some t) :
 Calls Tryz.prog 28 #[.pointer (some ⟨r, 0, Option.none⟩), .int .i64 q, .string ⟨s.toArray⟩] w fun e' w' => (∃ rv, e' = .returned (.agg #[.int .i64 t.kind, .string ⟨t.text.toArray⟩, .string ⟨t.num.toArray⟩, .string ⟨t.den.toArray⟩, rv, .int .i64 t.line, .int .i64 t.col]) ∧ IRow w' w'.heap.size rv t.row) ∧ Cells w' r 90 (rdC A l.length c (k + 1) ln co e) ∧ RK r w w' := by
 obtain ⟨W0, hW0⟩ : ∃ W0, W0 = w.alloc (.cells #[.int .i64 0, .string ⟨#[]⟩, .string ⟨#[]⟩, .string ⟨#[]⟩, .slice Option.none 0 0, .int .i64 0, .int .i64 0] 92) := ⟨_, rfl⟩
 have hb0 : Below w.heap.size w W0 := by rw [hW0]; exact (Below.refl _ _).alloc (Nat.le_refl _) _
 have hrl := h.lt
 have HZ : Hid (Cells W0 w.heap.size 92 [.int .i64 0, .string ⟨#[]⟩, .string ⟨#[]⟩, .string ⟨#[]⟩, .slice Option.none 0 0, .int .i64 0, .int .i64 0]) := Lib.hid (by rw [hW0]; exact Cells.new w 92 #[.int .i64 0, .string ⟨#[]⟩, .string ⟨#[]⟩, .string ⟨#[]⟩, .slice Option.none 0 0, .int .i64 0, .int .i64 0])
 have HC := Lib.hid (h.below hb0 h.lt)
 have HT := Lib.hid (ht.lift hb0)
 have HK := Lib.hid (RK.of_below hb0 (Nat.le_of_lt hrl))
 have HIS := Lib.hid (isL_any r k c A l ln co e q s W0 (h.below hb0 h.lt) (ht.lift hb0) (Nat.le_of_lt hk))
 rw [hi] at HIS
 have HLT : Box (∀ b o, A = some ⟨b, o, Option.none⟩ → b < w.heap.size) := ⟨fun b o e => by
  obtain ⟨b', o', _, e', h', _⟩ := ht.at_ hk
  rw [e] at e'
  injection e' with e'
  injection e' with e' _ _
  omega⟩
 have HTE : Box (l[k]'hk = t) := ⟨by
  rw [List.getElem?_eq_getElem hk] at hte
  exact Option.some.inj hte⟩
 obtain ⟨k0, x0, n0, d0, ro, l0, o0⟩ := t
 dsimp only
 clear h ht hi hb0 hte
 go_enter Tryz.func28, Tryz.ntmps28
 go_upto_region 1 with (fail)
 rw [← hW0]
 clear hW0
 go_wp2_with fail
 refine HIS.out.mono ?_
 rintro e1 w1 ⟨rfl, hb1⟩
 replace HZ := Lib.hid (HZ.out.below hb1 HZ.out.lt)
 have hrw : r < W0.heap.size := HC.out.lt
 replace HK := Lib.hid (HK.out.trans (RK.of_below hb1 (Nat.le_of_lt hrw)))
 replace HC := Lib.hid (HC.out.below hb1 HC.out.lt)
 replace HT := Lib.hid (TkT.lift HT.out hb1)
 clear hb1 hrw HIS
 have f1 := HC.out.free 1
 obtain ⟨c0, c1, c2, c3, c4⟩ := cel5 HC.out
 have hki : (0 : Int) ≤ (k : Int) := by omega
 have hkl : (k : Int) < (l.length : Int) := by omega
 have hw0 : IntKind.i64.wrap ((k : Int) + 1) = (k : Int) + 1 := IntWalk.i64_in _ (by omega)
 have hw2 : IntKind.i64.wrap ((k : Int) + 1 - 1) = (k : Int) := by rw [show (k : Int) + 1 - 1 = k by omega]; exact IntWalk.i64_in _ (by omega)
 have hw3 : IntKind.i64.wrap (k : Int) = (k : Int) := IntWalk.i64_in _ (by omega)
 go_upto_region 6 with (fail)
 obtain ⟨W2, hW2⟩ : ∃ W2, W2 = w1.setCell ⟨r, 1, Option.none⟩ (.int .i64 ((k : Int) + 1)) := ⟨_, rfl⟩
 have hc2 : Cells W2 r 90 (rdC A l.length c (k + 1) ln co e) := by rw [hW2]; exact HC.out.set 1 _
 have hTB : w.heap.size ≠ r := by omega
 have hk2 : RK r w W2 := by rw [hW2]; exact HK.out.store HC.out _
 have hz2 : Cells W2 w.heap.size 92 [.int .i64 0, .string ⟨#[]⟩, .string ⟨#[]⟩, .string ⟨#[]⟩, .slice Option.none 0 0, .int .i64 0, .int .i64 0] := by rw [hW2]; exact HZ.out.far (p := ⟨r, 1, Option.none⟩) hTB _
 have ht2 : TkT W2 W2.heap.size A l := by
  have hkp : RK r w1 W2 := by rw [hW2]; exact (RK.refl r w1).store HC.out _
  exact hkp.tk HT.out
 rw [← hW2]
 have HC2 := Lib.hid hc2
 have HK2 := Lib.hid hk2
 have HZ2 := Lib.hid hz2
 clear hW2 HC HK HZ HT c0 c1 c2 c3 c4 f1
 obtain ⟨b1, o1, rv, rfl, hbl, hty, hrow, p0, p1, p2, p3, p4, p5, p6⟩ := ht2.at_ hk
 rw [HTE.out] at hrow p0 p1 p2 p3 p5 p6
 dsimp only at hrow p0 p1 p2 p3 p5 p6
 have hbr : b1 ≠ r := fun e => by
  subst e
  exact absurd (hty.one (TyB.of_cells hc2)) (by decide)
 have hbz : b1 ≠ w.heap.size := fun e => by
  have := HLT.out b1 o1 rfl
  omega
 have HRW := Lib.hid hrow
 obtain ⟨AR, cr, rfl, _⟩ := hrow.shape
 obtain ⟨c0, c1, _⟩ := cel5 hc2
 have hrz : r ≠ w.heap.size := fun e => hTB e.symm
 have g0 := hz2.free 0
 have g1 := hz2.free 1
 have g2 := hz2.free 2
 have g3 := hz2.free 3
 have g4 := hz2.free 4
 have g5 := hz2.free 5
 have g6 := hz2.free 6
 obtain ⟨z0, z1, z2, z3, z4, z5, z6⟩ := cel7 hz2
 clear hc2 hk2 hz2 ht2 hty hrow
 have hB : Below W2.heap.size W2 W2.drew := below_to_drew (Below.refl _ _)
 have c1' : W2.cell? ⟨r, 1, Option.none⟩ = some (.int .i64 ((k : Int) + 1)) := c1
 go_region_held3 (fun w' => w'.cell? ⟨r, 0, Option.none⟩ = some (.slice (some ⟨b1, o1, Option.none⟩) l.length c) ∧ w'.cell? ⟨r, 1, Option.none⟩ = some (.int .i64 ((k : Int) + 1)) ∧ w'.cell? ⟨b1, o1 + k * 7, Option.none⟩ = some (.int .i64 k0) ∧ w'.cell? ⟨b1, o1 + k * 7 + 1, Option.none⟩ = some (.string ⟨x0.toArray⟩) ∧ w'.cell? ⟨b1, o1 + k * 7 + 2, Option.none⟩ = some (.string ⟨n0.toArray⟩) ∧ w'.cell? ⟨b1, o1 + k * 7 + 3, Option.none⟩ = some (.string ⟨d0.toArray⟩) ∧ w'.cell? ⟨b1, o1 + k * 7 + 4, Option.none⟩ = some (.slice AR ro.length cr) ∧ w'.cell? ⟨b1, o1 + k * 7 + 5, Option.none⟩ = some (.int .i64 l0) ∧ w'.cell? ⟨b1, o1 + k * 7 + 6, Option.none⟩ = some (.int .i64 o0))
  (first | with_reducible exact ⟨keep_cell c0 hB, keep_cell c1' hB, keep_cell p0 hB, keep_cell p1 hB, keep_cell p2 hB, keep_cell p3 hB, keep_cell p4 hB, keep_cell p5 hB, keep_cell p6 hB⟩ | with_reducible exact ⟨st7_far c0 hrz, st7_far c1' hrz, st7_far p0 hbz, st7_far p1 hbz, st7_far p2 hbz, st7_far p3 hbz, st7_far p4 hbz, st7_far p5 hbz, st7_far p6 hbz⟩ | with_reducible exact ⟨st7_farD c0 hrz, st7_farD c1' hrz, st7_farD p0 hbz, st7_farD p1 hbz, st7_farD p2 hbz, st7_farD p3 hbz, st7_farD p4 hbz, st7_farD p5 hbz, st7_farD p6 hbz⟩ | go_keep)
  ((first | fail))
 have hz7 := (st7_same (a0 := .int .i64 k0) (a1 := .string ⟨x0.toArray⟩) (a2 := .string ⟨n0.toArray⟩) (a3 := .string ⟨d0.toArray⟩) (a4 := .slice AR ro.length cr) (a5 := .int .i64 l0) (a6 := .int .i64 o0) HZ2.out).drew
 have hb7 : Below w.heap.size W2 (st7 W2 w.heap.size (.int .i64 k0) (.string ⟨x0.toArray⟩) (.string ⟨n0.toArray⟩) (.string ⟨d0.toArray⟩) (.slice AR ro.length cr) (.int .i64 l0) (.int .i64 o0)).drew := below_to_drew (st7_below (Nat.le_refl _) (Below.refl _ _))
 have hk7 : KpT [92] W2.heap.size W2 (st7 W2 w.heap.size (.int .i64 k0) (.string ⟨x0.toArray⟩) (.string ⟨n0.toArray⟩) (.string ⟨d0.toArray⟩) (.slice AR ro.length cr) (.int .i64 l0) (.int .i64 o0)).drew := (st7_kpt HZ2.out).trans (KpT.of_below (below_to_drew (Below.refl _ _)))
 have hc7 := HC2.out.below hb7 hrl
 have HW7 := Lib.hid (HRW.out.keep hk7 (by decide) hk7.size)
 have HKK : Hid (RK r w (st7 W2 w.heap.size (.int .i64 k0) (.string ⟨x0.toArray⟩) (.string ⟨n0.toArray⟩) (.string ⟨d0.toArray⟩) (.slice AR ro.length cr) (.int .i64 l0) (.int .i64 o0)).drew) := Lib.hid ⟨HK2.out.low.trans (hb7.mono (Nat.le_of_lt hrl)), HK2.out.kp.trans (KpT.of_below hb7)⟩
 generalize hW7 : (st7 W2 w.heap.size (.int .i64 k0) (.string ⟨x0.toArray⟩) (.string ⟨n0.toArray⟩) (.string ⟨d0.toArray⟩) (.slice AR ro.length cr) (.int .i64 l0) (.int .i64 o0)).drew = W7 at *
 clear hW7 HRW HK2
 obtain ⟨z0, z1, z2, z3, z4, z5, z6⟩ := cel7 hz7
 go_wp2_with fail
 exact bodyPost_ret (v := .agg #[.int .i64 k0, .string ⟨x0.toArray⟩, .string ⟨n0.toArray⟩, .string ⟨d0.toArray⟩, .slice AR ro.length cr, .int .i64 l0, .int .i64 o0]) (by simp (maxDischargeDepth := 10) [results, Tryz.results28, go_sem, z0, z1, z2, z3, z4, z5, z6]) rfl ⟨⟨_, rfl, HW7.out⟩, hc7, HKK.out⟩

/-- The reader's state. -/
structure Rs where
 k : Nat
 ln : Int
 co : Int
 e : Int
def tkNil : Tok := ⟨0, [], [], [], [], 0, 0⟩
def failS (l : List Tok) (st : Rs) (er : Int) : Rs := ⟨st.k, plL l st.k, plC l st.k, er⟩
def takeS (l : List Tok) (q : Int) (s : List UInt8) (st : Rs) : Tok × Rs := if isB l st.e st.k q s = true then (tokAt l st.k, ⟨st.k + 1, st.ln, st.co, st.e⟩) else (tkNil, if st.e = 0 then failS l st 15 else st)
abbrev rdS (A : Option Addr) (l : List Tok) (c : Nat) (st : Rs) : List Value := rdC A l.length c st.k st.ln st.co st.e

end Go.Proofs.YtaaeekahhhookaaGreatDoor

namespace Go.Proofs.YtaaeekahhhookaaGreatDoor
open Go.RowKit Go.Lib

theorem RK.cells {r b : Nat} {T : TypeId} {w w' : World} {xs : List Value} (h : RK r w w') (hc : Cells w b T xs) (hT : T ∉ [90]) : Cells w' b T xs := (h.kp.block b _ hc.lt (TyB.of_cells hc) hT).trans hc

set_option maxRecDepth 100000 in
set_option maxHeartbeats 8000000 in
theorem takeL_no (r k c : Nat) (A : Option Addr) (l : List Tok) (ln co e q : Int) (s : List UInt8) (w : World) (h : Cells w r 90 (rdC A l.length c k ln co e)) (ht : TkT w w.heap.size A l) (hk : k ≤ l.length) (hl : l.length ≤ 1000000) (hi : isB l e k q s = false) :
 Calls Tryz.prog 28 #[.pointer (some ⟨r, 0, Option.none⟩), .int .i64 q, .string ⟨s.toArray⟩] w fun e' w' => (∃ rv, e' = .returned (.agg #[.int .i64 0, .string ⟨[].toArray⟩, .string ⟨[].toArray⟩, .string ⟨[].toArray⟩, rv, .int .i64 0, .int .i64 0]) ∧ IRow w' w'.heap.size rv []) ∧ Cells w' r 90 (rdS A l c (if e = 0 then failS l ⟨k, ln, co, e⟩ 15 else ⟨k, ln, co, e⟩)) ∧ RK r w w' := by
 obtain ⟨W0, hW0⟩ : ∃ W0, W0 = w.alloc (.cells #[.int .i64 0, .string ⟨#[]⟩, .string ⟨#[]⟩, .string ⟨#[]⟩, .slice Option.none 0 0, .int .i64 0, .int .i64 0] 92) := ⟨_, rfl⟩
 have hb0 : Below w.heap.size w W0 := by rw [hW0]; exact (Below.refl _ _).alloc (Nat.le_refl _) _
 have hrl := h.lt
 have HZ : Hid (Cells W0 w.heap.size 92 [.int .i64 0, .string ⟨#[]⟩, .string ⟨#[]⟩, .string ⟨#[]⟩, .slice Option.none 0 0, .int .i64 0, .int .i64 0]) := Lib.hid (by rw [hW0]; exact Cells.new w 92 #[.int .i64 0, .string ⟨#[]⟩, .string ⟨#[]⟩, .string ⟨#[]⟩, .slice Option.none 0 0, .int .i64 0, .int .i64 0])
 have HC := Lib.hid (h.below hb0 h.lt)
 have HT := Lib.hid (ht.lift hb0)
 have HK := Lib.hid (RK.of_below hb0 (Nat.le_of_lt hrl))
 have HIS := Lib.hid (isL_any r k c A l ln co e q s W0 (h.below hb0 h.lt) (ht.lift hb0) hk)
 rw [hi] at HIS
 clear h ht hi hb0
 cases he : (e == 0) with
 | true =>
   obtain rfl : e = 0 := by simpa using he
   rw [if_pos rfl]
   unfold failS
   dsimp only
   go_enter Tryz.func28, Tryz.ntmps28
   go_upto_region 1 with (fail)
   rw [← hW0]
   clear hW0
   go_wp2_with fail
   refine HIS.out.mono ?_
   rintro e1 w1 ⟨rfl, hb1⟩
   replace HZ := Lib.hid (HZ.out.below hb1 HZ.out.lt)
   have hrw : r < W0.heap.size := HC.out.lt
   replace HK := Lib.hid (HK.out.trans (RK.of_below hb1 (Nat.le_of_lt hrw)))
   replace HC := Lib.hid (HC.out.below hb1 HC.out.lt)
   replace HT := Lib.hid (TkT.lift HT.out hb1)
   clear hb1 hrw HIS
   obtain ⟨c0, c1, c2, c3, c4⟩ := cel5 HC.out
   have HF := Lib.hid (failL_any r k c A l ln co 0 15 w1 HC.out HT.out hk hl)
   go_upto_region 3 with (fail)
   go_wp2_with fail
   refine HF.out.mono ?_
   rintro e2 WW ⟨rfl, hc2, hk2⟩
   replace HZ := Lib.hid (hk2.cells HZ.out (by decide))
   replace HK := Lib.hid (HK.out.trans hk2)
   replace HC := Lib.hid hc2
   clear hk2 hc2 HT HF c0 c1 c2 c3 c4
   obtain ⟨z0, z1, z2, z3, z4, z5, z6⟩ := cel7 HZ.out
   have g0 := HZ.out.free 0
   have g1 := HZ.out.free 1
   have g2 := HZ.out.free 2
   have g3 := HZ.out.free 3
   have g4 := HZ.out.free 4
   have g5 := HZ.out.free 5
   have g6 := HZ.out.free 6
   obtain ⟨W7, hW7⟩ : ∃ W7, W7 = (((((((WW.setCell ⟨w.heap.size, 0, Option.none⟩ (.int .i64 0)).setCell ⟨w.heap.size, 1, Option.none⟩ (.string ⟨#[]⟩)).setCell ⟨w.heap.size, 2, Option.none⟩ (.string ⟨#[]⟩)).setCell ⟨w.heap.size, 3, Option.none⟩ (.string ⟨#[]⟩)).setCell ⟨w.heap.size, 4, Option.none⟩ (.slice Option.none 0 0)).setCell ⟨w.heap.size, 5, Option.none⟩ (.int .i64 0)).setCell ⟨w.heap.size, 6, Option.none⟩ (.int .i64 0)) := ⟨_, rfl⟩
   have hb7 : Below w.heap.size WW W7 := by rw [hW7]; exact st7_below (Nat.le_refl _) (Below.refl _ _)
   have hz7 : Cells W7 w.heap.size 92 [.int .i64 0, .string ⟨#[]⟩, .string ⟨#[]⟩, .string ⟨#[]⟩, .slice Option.none 0 0, .int .i64 0, .int .i64 0] := by rw [hW7]; exact st7_same HZ.out
   have hc7 := HC.out.below hb7 hrl
   have HKK : Hid (RK r w W7) := Lib.hid ⟨HK.out.low.trans (hb7.mono (Nat.le_of_lt hrl)), HK.out.kp.trans (KpT.of_below hb7)⟩
   go_wp2_with fail
   rw [← hW7]
   clear hW7 z0 z1 z2 z3 z4 z5 z6
   obtain ⟨z0, z1, z2, z3, z4, z5, z6⟩ := cel7 hz7
   exact bodyPost_ret (v := .agg #[.int .i64 0, .string ⟨#[]⟩, .string ⟨#[]⟩, .string ⟨#[]⟩, .slice Option.none 0 0, .int .i64 0, .int .i64 0]) (by simp (maxDischargeDepth := 10) [results, Tryz.results28, go_sem, z0, z1, z2, z3, z4, z5, z6]) rfl ⟨⟨_, rfl, ⟨_, _, rfl, Nat.le_refl _, Nat.zero_le _, fun h => absurd h (by decide)⟩⟩, hc7, HKK.out⟩
 | false =>
   have hne : e ≠ 0 := by simpa using he
   rw [if_neg hne]
   go_enter Tryz.func28, Tryz.ntmps28
   go_upto_region 1 with (fail)
   rw [← hW0]
   clear hW0
   go_wp2_with fail
   refine HIS.out.mono ?_
   rintro e1 w1 ⟨rfl, hb1⟩
   replace HZ := Lib.hid (HZ.out.below hb1 HZ.out.lt)
   have hrw : r < W0.heap.size := HC.out.lt
   replace HK := Lib.hid (HK.out.trans (RK.of_below hb1 (Nat.le_of_lt hrw)))
   replace HC := Lib.hid (HC.out.below hb1 HC.out.lt)
   replace HT := Lib.hid (TkT.lift HT.out hb1)
   clear hb1 hrw HIS
   obtain ⟨c0, c1, c2, c3, c4⟩ := cel5 HC.out
   go_upto_region 4 with (fail)
   generalize w1 = WW at *
   obtain ⟨z0, z1, z2, z3, z4, z5, z6⟩ := cel7 HZ.out
   have g0 := HZ.out.free 0
   have g1 := HZ.out.free 1
   have g2 := HZ.out.free 2
   have g3 := HZ.out.free 3
   have g4 := HZ.out.free 4
   have g5 := HZ.out.free 5
   have g6 := HZ.out.free 6
   obtain ⟨W7, hW7⟩ : ∃ W7, W7 = (((((((WW.setCell ⟨w.heap.size, 0, Option.none⟩ (.int .i64 0)).setCell ⟨w.heap.size, 1, Option.none⟩ (.string ⟨#[]⟩)).setCell ⟨w.heap.size, 2, Option.none⟩ (.string ⟨#[]⟩)).setCell ⟨w.heap.size, 3, Option.none⟩ (.string ⟨#[]⟩)).setCell ⟨w.heap.size, 4, Option.none⟩ (.slice Option.none 0 0)).setCell ⟨w.heap.size, 5, Option.none⟩ (.int .i64 0)).setCell ⟨w.heap.size, 6, Option.none⟩ (.int .i64 0)) := ⟨_, rfl⟩
   have hb7 : Below w.heap.size WW W7 := by rw [hW7]; exact st7_below (Nat.le_refl _) (Below.refl _ _)
   have hz7 : Cells W7 w.heap.size 92 [.int .i64 0, .string ⟨#[]⟩, .string ⟨#[]⟩, .string ⟨#[]⟩, .slice Option.none 0 0, .int .i64 0, .int .i64 0] := by rw [hW7]; exact st7_same HZ.out
   have hc7 := HC.out.below hb7 hrl
   have HKK : Hid (RK r w W7) := Lib.hid ⟨HK.out.low.trans (hb7.mono (Nat.le_of_lt hrl)), HK.out.kp.trans (KpT.of_below hb7)⟩
   go_wp2_with fail
   rw [← hW7]
   clear hW7 z0 z1 z2 z3 z4 z5 z6
   obtain ⟨z0, z1, z2, z3, z4, z5, z6⟩ := cel7 hz7
   exact bodyPost_ret (v := .agg #[.int .i64 0, .string ⟨#[]⟩, .string ⟨#[]⟩, .string ⟨#[]⟩, .slice Option.none 0 0, .int .i64 0, .int .i64 0]) (by simp (maxDischargeDepth := 10) [results, Tryz.results28, go_sem, z0, z1, z2, z3, z4, z5, z6]) rfl ⟨⟨_, rfl, ⟨_, _, rfl, Nat.le_refl _, Nat.zero_le _, fun h => absurd h (by decide)⟩⟩, hc7, HKK.out⟩

end Go.Proofs.YtaaeekahhhookaaGreatDoor

namespace Go.Proofs.YtaaeekahhhookaaGreatDoor
open Go.RowKit Go.Lib

theorem isB_tok {l : List Tok} {e : Int} {k : Nat} {q : Int} {s : List UInt8} (h : isB l e k q s = true) : ∃ hk : k < l.length, l[k]? = some (l[k]'hk) ∧ tokAt l k = l[k]'hk := by
 obtain ⟨_, hk⟩ := isB_lt h
 have e1 := List.getElem?_eq_getElem hk
 exact ⟨hk, e1, by unfold tokAt; rw [e1]; rfl⟩
theorem takeS_le (l : List Tok) (q : Int) (s : List UInt8) (st : Rs) (h : st.k ≤ l.length) : (takeS l q s st).2.k ≤ l.length := by
 unfold takeS
 split
 ·rename_i h1
  have := (isB_lt h1).2
  show st.k + 1 ≤ l.length
  omega
 ·split
  ·exact h
  ·exact h
/-- What take returns. -/
def TkPost (r c : Nat) (A : Option Addr) (l : List Tok) (w : World) (x : Tok × Rs) (e : Ending) (w' : World) : Prop :=
 (∃ rv, e = .returned (.agg #[.int .i64 x.1.kind, .string ⟨x.1.text.toArray⟩, .string ⟨x.1.num.toArray⟩, .string ⟨x.1.den.toArray⟩, rv, .int .i64 x.1.line, .int .i64 x.1.col]) ∧ IRow w' w'.heap.size rv x.1.row) ∧ Cells w' r 90 (rdS A l c x.2) ∧ RK r w w'

theorem takeL_any (r c : Nat) (A : Option Addr) (l : List Tok) (st : Rs) (q : Int) (s : List UInt8) (w : World) (h : Cells w r 90 (rdS A l c st)) (ht : TkT w w.heap.size A l) (hk : st.k ≤ l.length) (hl : l.length ≤ 1000000) :
 Calls Tryz.prog 28 #[.pointer (some ⟨r, 0, Option.none⟩), .int .i64 q, .string ⟨s.toArray⟩] w fun e' w' => TkPost r c A l w (takeS l q s st) e' w' := by
 unfold takeS
 cases hi : isB l st.e st.k q s with
 | true =>
   rw [if_pos rfl]
   obtain ⟨hk1, e1, e2⟩ := isB_tok hi
   rw [e2]
   exact takeL_yes r st.k c A l st.ln st.co st.e q s w h ht hk1 hl hi _ e1
 | false =>
   rw [if_neg (by decide)]
   exact takeL_no r st.k c A l st.ln st.co st.e q s w h ht hk hl hi

end Go.Proofs.YtaaeekahhhookaaGreatDoor
