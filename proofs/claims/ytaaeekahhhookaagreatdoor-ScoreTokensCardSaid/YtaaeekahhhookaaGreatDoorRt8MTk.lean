/- The law's reader of a score: what its loops keep. The law's reader of a score: parse. -/
import Derived.Test.YtaaeekahhhookaaGreatDoorMk48MTk
import Derived.Test.YtaaeekahhhookaaGreatDoorCk48Tk
import Derived.Test.YtaaeekahhhookaaGreatDoorGXKTk
import Derived.Deep.CutBlock
import Derived.Deep.DeepCutAuto
namespace Go.Proofs.YtaaeekahhhookaaGreatDoor
open Go.RowKit Go.Lib

theorem takeS_mono (l : List Tok) (q : Int) (s : List UInt8) (st : Rs) : st.k ≤ (takeS l q s st).2.k ∧ ((takeS l q s st).2.e = 0 → st.e = 0 ∧ (takeS l q s st).2.k = st.k + 1) := by
 unfold takeS
 split
 ·rename_i h
  exact ⟨Nat.le_succ _, fun _ => ⟨(isB_lt h).1, rfl⟩⟩
 ·split
  ·exact ⟨Nat.le_refl _, fun h => absurd (show (15 : Int) = 0 from h) (by decide)⟩
  ·rename_i h
   exact ⟨Nat.le_refl _, fun h2 => absurd h2 h⟩
theorem notesS_mono (nt : List Int → Tok → List Int × Int) (l : List Tok) (p : List Int) : ∀ (f : Nat) (st : Rs) (ns : List (List Int)), st.k ≤ l.length → st.k ≤ (notesS nt l p f st ns).2.k ∧ (notesS nt l p f st ns).2.k ≤ l.length ∧ ((notesS nt l p f st ns).2.e = 0 → st.e = 0)
 | 0, st, ns, h => ⟨Nat.le_refl _, h, id⟩
 | f + 1, st, ns, h => by
   rw [notesS]
   split
   ·rename_i hb
    have hk : st.k < l.length := by
     rcases Bool.or_eq_true _ _ ▸ hb with h1 | h1
     ·exact (isB_lt h1).2
     ·exact (isB_lt h1).2
    split
    ·obtain ⟨h1, h2, h3⟩ := notesS_mono nt l p f ⟨st.k + 1, st.ln, st.co, st.e⟩ (ns ++ [(nt p (tokAt l st.k)).1]) hk
     exact ⟨Nat.le_trans (Nat.le_succ _) h1, h2, h3⟩
    ·rename_i hz
     exact ⟨Nat.le_refl _, h, fun h1 => absurd h1 hz⟩
   ·exact ⟨Nat.le_refl _, h, id⟩
theorem eventS_mono (nt : List Int → Tok → List Int × Int) (l : List Tok) (p : List Int) (st : Rs) (h : st.k ≤ l.length) : st.k ≤ (eventS nt l p st).2.k ∧ (eventS nt l p st).2.k ≤ l.length ∧ ((eventS nt l p st).2.e = 0 → st.e = 0) ∧ (isB l st.e st.k 2 [] = true → st.k + 1 ≤ (eventS nt l p st).2.k) := by
 unfold eventS
 dsimp only
 have a := takeS_mono l 2 [] st
 have a2 := takeS_le l 2 [] st h
 have b := takeS_mono l 5 [58] (takeS l 2 [] st).2
 have b2 := takeS_le l 5 [58] (takeS l 2 [] st).2 a2
 obtain ⟨c1, c2, c3⟩ := notesS_mono nt l p (l.length + 1) (takeS l 5 [58] (takeS l 2 [] st).2).2 [] b2
 have d := takeS_mono l 6 [] (notesS nt l p (l.length + 1) (takeS l 5 [58] (takeS l 2 [] st).2).2 []).2
 refine ⟨by omega, takeS_le l 6 [] _ c2, fun e => (a.2 (b.2 (c3 (d.2 e).1)).1).1, fun hi => ?_⟩
 have e1 : (takeS l 2 [] st).2.k = st.k + 1 := by
  unfold takeS
  rw [if_pos hi]
 omega
theorem headS_mono (l : List Tok) (st : Rs) (h : st.k ≤ l.length) : st.k ≤ (headS l st).2.k ∧ (headS l st).2.k ≤ l.length ∧ ((headS l st).2.e = 0 → st.e = 0 ∧ st.k + 1 ≤ (headS l st).2.k) := by
 unfold headS
 dsimp only
 have a := takeS_mono l 1 [118, 111, 105, 99, 101] st
 have a2 := takeS_le l 1 [118, 111, 105, 99, 101] st h
 have b := takeS_mono l 1 [] (takeS l 1 [118, 111, 105, 99, 101] st).2
 have b2 := takeS_le l 1 [] _ a2
 have d := takeS_mono l 6 [] (takeS l 1 [] (takeS l 1 [118, 111, 105, 99, 101] st).2).2
 have d2 := takeS_le l 6 [] _ b2
 refine ⟨by omega, d2, fun e => ?_⟩
 have e1 := d.2 e
 have e2 := b.2 e1.1
 have e3 := a.2 e2.1
 exact ⟨e3.1, by omega⟩
theorem evsS_mono (nt : List Int → Tok → List Int × Int) (l : List Tok) (p : List Int) : ∀ (f : Nat) (st : Rs) (es : List Ev), st.k ≤ l.length → st.k ≤ (evsS nt l p f st es).2.k ∧ (evsS nt l p f st es).2.k ≤ l.length ∧ ((evsS nt l p f st es).2.e = 0 → st.e = 0)
 | 0, st, es, h => ⟨Nat.le_refl _, h, id⟩
 | f + 1, st, es, h => by
   rw [evsS]
   split
   ·obtain ⟨a1, a2, a3, _⟩ := eventS_mono nt l p st h
    obtain ⟨h1, h2, h3⟩ := evsS_mono nt l p f (eventS nt l p st).2 (es ++ [(eventS nt l p st).1]) a2
    exact ⟨Nat.le_trans a1 h1, h2, fun e => a3 (h3 e)⟩
   ·exact ⟨Nat.le_refl _, h, id⟩

/-- A growing list of ints. -/
def IntQ (x : Int) (cs : List Value) : Prop := cs = [.int .i64 x]
def PrO (w : World) (base : Nat) (v : Value) (l : List Int) : Prop := ∃ css, LO 3 1 IntQ w base v l css
theorem PrO.nil (w : World) (base : Nat) : PrO w base (.slice Option.none 0 0) [] := ⟨[], LO.nil _ _⟩
theorem PrO.kpt {E : List TypeId} {w w' : World} {base : Nat} {v : Value} {l : List Int} (h : PrO w base v l) (hk : KpT E w.heap.size w w') (h1 : 3 ∉ E) : PrO w' base v l := by
 obtain ⟨css, h⟩ := h
 exact ⟨css, h.kpt hk h1 (fun g hg => (h.lt g hg).2) fun _ _ _ hq => hq⟩
theorem PrO.irow {w : World} {base : Nat} {v : Value} {l : List Int} (h : PrO w base v l) : IRow w w.heap.size v l := by
 obtain ⟨css, h⟩ := h
 obtain ⟨A, c, rfl, h1, h2, h3⟩ := h.shape
 refine ⟨A, c, rfl, h1, h2, fun h0 => ?_⟩
 obtain ⟨b, o, cs, e, g1, g2, _, _, _⟩ := h3.get 0 _ (List.getElem?_eq_getElem h0)
 refine ⟨b, o, e, g1, g2, fun k hk => ?_⟩
 obtain ⟨b', o', cs', e', _, _, _, h6, h7⟩ := h3.get k _ (List.getElem?_eq_getElem hk)
 rw [e] at e'
 injection e' with e'
 injection e' with e2 e3 _
 subst e2 e3
 have h8 := h6 0 (by decide)
 rw [show cs' = [.int .i64 (l[k]'hk)] from h7, Nat.mul_one, Nat.add_zero] at h8
 rw [h8, List.getElem?_eq_getElem hk]
 rfl
theorem VcO.kpt {E : List TypeId} {w w' : World} {base : Nat} {v : Value} {l : List Vc} (h : VcO w base v l) (hk : KpT E w.heap.size w w') (h1 : 3 ∉ E) (h2 : 40 ∉ E) (h3 : 54 ∉ E) (h4 : 48 ∉ E) : VcO w' base v l := by
 obtain ⟨css, h⟩ := h
 exact ⟨css, h.kpt hk h4 (fun g hg => (h.lt g hg).2) fun _ _ _ hq => hq.keep hk h1 h2 h3 hk.size⟩
theorem grow_kpt {α : Type} {T S : TypeId} {s base X j : Nat} {Q : α → List Value → Prop} {w wB : World} {v v' : Value} {l : List α} {css : List (List Value)} {xs : List Value} {o : Obj} (h : LO T s Q w base v l css) (hx : Cells wB X S xs) (hg : (w.alloc o).grownBy wB v.ownBlock) : KpT [T, S] w.heap.size w (wB.setCell ⟨X, j, Option.none⟩ v') :=
 (((KpT.refl [T, S] w.heap.size w).alloc (Nat.le_refl _) o).grown (h.own.alloc o) (by simp) hg).setCell (TyB.of_cells hx) (by simp) _
/-- Tokens of the scanner, to be read. -/
theorem TkT.of_toks {w : World} {base : Nat} {v : Value} {l : List Tok} (h : Toks w base v l) : ∃ A c, v = .slice A l.length c ∧ TkT w w.heap.size A l := by
 obtain ⟨rvs, h1, h2, h3⟩ := h
 rcases h2.2 with ⟨rfl, h0⟩ | ⟨g, cap, cur, rfl, _, hg, hc1, hc2, hc3, hc4⟩
 ·have : l = [] := List.eq_nil_of_length_eq_zero h0
  subst this
  exact ⟨Option.none, 0, rfl, LT.nil _ _ _⟩
 ·refine ⟨_, _, rfl, ⟨fun k x hx => ?_⟩⟩
  have hk := (List.getElem?_eq_some_iff.1 hx).1
  have hk2 : k < rvs.length := by rw [h1]; exact hk
  have hr := List.getElem?_eq_getElem hk2
  refine ⟨g, 0, tokVals x (rvs[k]'hk2), rfl, (Array.getElem?_eq_some_iff.1 hg).1, ⟨_, _, hg⟩, rfl, fun j hj => ?_, _, rfl, IRow.of_trow (h3 k x _ hx hr)⟩
  have hf := flat_get l rvs k x (rvs[k]'hk2) j h1 hx hr hj
  rw [← hf, ← hc4, List.getElem?_take, if_pos (by omega), Nat.zero_add]
  unfold World.cell?
  simp only [hg]
  simp

/-- The error that the reader holds; how far it may still go. -/
def rde (r : Nat) (w : World) : Int := match w.cell? ⟨r, 4, Option.none⟩ with
 | some v => intOf v
 | none => 1
theorem rde_eq {w : World} {r c : Nat} {A : Option Addr} {l : List Tok} {st : Rs} (h : Cells w r 90 (rdS A l c st)) : rde r w = st.e := by
 unfold rde
 rw [h.cell 4]
 rfl
def mer (r n : Nat) (w : World) : Nat := if rde r w = 0 then n + 1 - plr r w else 0
theorem mer_eq {w : World} {r c n : Nat} {A : Option Addr} {l : List Tok} {st : Rs} (h : Cells w r 90 (rdS A l c st)) : mer r n w = if st.e = 0 then n + 1 - st.k else 0 := by
 unfold mer
 rw [rde_eq h, plr_eq h]
theorem voicesS_end {nt : List Int → Tok → List Int × Int} {l : List Tok} {p : List Int} {st : Rs} (h : ¬ (st.e = 0 ∧ st.k < l.length)) : ∀ (f : Nat) (vs : List Vc), voicesS nt l p f st vs = (vs, st)
 | 0, _ => rfl
 | f + 1, vs => by rw [voicesS, if_neg h]
theorem evsS_end {nt : List Int → Tok → List Int × Int} {l : List Tok} {p : List Int} {st : Rs} (h : isB l st.e st.k 2 [] = false) : ∀ (f : Nat) (es : List Ev), evsS nt l p f st es = (es, st)
 | 0, _ => rfl
 | f + 1, es => by
   rw [evsS, h]
   rfl
/-- fraction.Small of a number token. -/
theorem fSmall_tok {t : Tok} (h : NumTok t) : ∃ (nv dv : Int) (b : Bool), (∀ W, Calls Tryz.prog 30 #[.agg #[.string ⟨t.num.toArray⟩, .string ⟨t.den.toArray⟩]] W fun e w' => e = .returned (.tuple #[.int .i64 nv, .int .i64 dv, .bool b]) ∧ Below W.heap.size W w') ∧ smP t.num t.den = if b = true ∧ dv = 1 then some nv else none := by
 obtain ⟨n, d, e1, e2, _, _, h3, h4⟩ := h
 rw [e1, e2, smP_itoa]
 by_cases hs : (decDigits n.natAbs).length ≤ 18 ∧ (itoa d).length ≤ 18
 ·refine ⟨n, d, true, fun W => fSmall_yes n d W hs.1 hs.2, ?_⟩
  by_cases hd : d = 1
  ·rw [if_pos ⟨hd, hs.1⟩, if_pos ⟨rfl, hd⟩]
  ·rw [if_neg fun h => hd h.1, if_neg fun h => hd h.2]
 ·refine ⟨0, 0, false, fun W => fSmall_no n d W (by omega) (by omega) (by omega), ?_⟩
  rw [if_neg, if_neg (by simp)]
  rintro ⟨rfl, h5⟩
  exact hs ⟨h5, by decide +kernel⟩

/-- What the law's reader holds between its steps. -/
structure PS (w0 : World) (r F S : Nat) (A : Option Addr) (c : Nat) (l : List Tok) (t1 : Tok) (w : World) (st : Rs) (pv : Value) (ps : List Int) (vv : Value) (vs : List Vc) : Prop where
 low : Below w0.heap.size w0 w
 hr : w0.heap.size + 1 < r
 hF : r < F
 hS : F < S
 rc : Cells w r 90 (rdS A l c st)
 tk : TkT w r A l
 cp : Cells w w0.heap.size 29 [.slice Option.none 0 0, .slice Option.none 0 0]
 cq : Cells w (w0.heap.size + 1) 31 [.int .i64 0, .int .i64 0]
 cf : ∃ rv, Cells w F 92 (tokVals t1 rv)
 cs : Cells w S 29 [pv, vv]
 prs : PrO w (S + 1) pv ps
 vso : VcO w (S + 1) vv vs

section
variable {w0 : World} {r F S : Nat} {A : Option Addr} {c : Nat} {l : List Tok} {t1 : Tok} {w w' : World} {st st' : Rs} {pv : Value} {ps : List Int} {vv : Value} {vs : List Vc}
theorem TkT.up {B B' : Nat} (h : TkT w B A l) (hB : B ≤ B') : TkT w B' A l := h.kpt (E := []) (KpT.refl _ _ _) (by simp) (by simp) hB
theorem PS.tkw (h : PS w0 r F S A c l t1 w st pv ps vv vs) : TkT w w.heap.size A l := h.tk.up (Nat.le_of_lt h.rc.lt)
theorem PS.rk (h : PS w0 r F S A c l t1 w st pv ps vv vs) (hk : RK r w w') (hc : Cells w' r 90 (rdS A l c st')) : PS w0 r F S A c l t1 w' st' pv ps vv vs :=
 ⟨h.low.trans (hk.low.mono (by have := h.hr; omega)), h.hr, h.hF, h.hS, hc, h.tk.kpt (hk.kp.mono (Nat.le_of_lt h.rc.lt)) (by decide) (by decide) (Nat.le_refl _), hk.cells h.cp (by decide), hk.cells h.cq (by decide), h.cf.elim fun rv hf => ⟨rv, hk.cells hf (by decide)⟩, hk.cells h.cs (by decide), h.prs.kpt hk.kp (by decide), h.vso.kpt hk.kp (by decide) (by decide) (by decide) (by decide)⟩
theorem PS.below (h : PS w0 r F S A c l t1 w st pv ps vv vs) (hb : Below w.heap.size w w') : PS w0 r F S A c l t1 w' st pv ps vv vs :=
 h.rk (RK.of_below hb (Nat.le_of_lt h.rc.lt)) (h.rc.below hb h.rc.lt)
/-- What lies below S stays. -/
theorem PS.above {pv' : Value} {ps' : List Int} {vv' : Value} {vs' : List Vc} (h : PS w0 r F S A c l t1 w st pv ps vv vs) (hb : Below S w w') (hcs : Cells w' S 29 [pv', vv']) (hp : PrO w' (S + 1) pv' ps') (hv : VcO w' (S + 1) vv' vs') : PS w0 r F S A c l t1 w' st pv' ps' vv' vs' := by
 have h1 := h.hr
 have h2 := h.hF
 have h3 := h.hS
 exact ⟨h.low.trans (hb.mono (by omega)), h.hr, h.hF, h.hS, h.rc.below hb (by omega), h.tk.kpt (E := []) (KpT.of_below (hb.mono (by omega))) (by simp) (by simp) (Nat.le_refl _), h.cp.below hb (by omega), h.cq.below hb (by omega), h.cf.elim fun rv hf => ⟨rv, hf.below hb (by omega)⟩, hcs, hp, hv⟩
end

end Go.Proofs.YtaaeekahhhookaaGreatDoor

namespace Go.Proofs.YtaaeekahhhookaaGreatDoor
open Go.RowKit Go.Lib

set_option maxRecDepth 100000 in
set_option maxHeartbeats 16000000 in
theorem parseL_any (t : List UInt8) (w : World) (hS : Std w) (hL : LenIs w) (ht : ScnOk t) :
  Calls Tryz.prog 8 #[.string ⟨t.toArray⟩] w fun e w' => PaPost w' (parseP t) e ∧ Below w.heap.size w w' := by
 obtain ⟨i0, hi0, hz0, hz1, hz2⟩ := info_parts Tryz.info_int
 obtain ⟨je, hie, gz0, gz1, gz2⟩ := info_parts Tryz.info_event48
 obtain ⟨kv, hiv, fz0, fz1, fz2⟩ := info_parts Tryz.info_voice48
 have HS := Lib.hid hS
 obtain ⟨htl, hto⟩ := ht
 have HTO : Box (∀ l, scanRead t = .good l → l.length ≤ 1000 ∧ (∀ t ∈ l, t.row.length ≤ 1000) ∧ (∀ t ∈ l, t.kind = 2 → NumTok t) ∧ ∀ t ∈ l, t.kind = 1 → t.text ≠ [58] ∧ t.text.length ≤ 32) := ⟨hto⟩
 obtain ⟨W0, hW0⟩ : ∃ W0, W0 = (w.alloc (.cells #[.slice Option.none 0 0, .slice Option.none 0 0] 29)).alloc (.cells #[.int .i64 0, .int .i64 0] 31) := ⟨_, rfl⟩
 have hb0 : Below w.heap.size w W0 := by rw [hW0]; exact ((Below.refl _ _).alloc (Nat.le_refl _) _).alloc (by simp) _
 have HP0 : Hid (Cells W0 w.heap.size 29 [.slice Option.none 0 0, .slice Option.none 0 0]) := Lib.hid (by rw [hW0]; exact (Cells.new w 29 #[.slice Option.none 0 0, .slice Option.none 0 0]).alloc _)
 have HQ0 : Hid (Cells W0 (w.heap.size + 1) 31 [.int .i64 0, .int .i64 0]) := Lib.hid (by
  have h := Cells.new (w.alloc (.cells #[.slice Option.none 0 0, .slice Option.none 0 0] 29)) 31 #[.int .i64 0, .int .i64 0]
  rw [World.size_alloc] at h
  rw [hW0]
  exact h)
 have HB0 := Lib.hid hb0
 have HSC := Lib.hid (fun W (hb : Below w.heap.size w W) => scan_anyT t W (hS.below hb (Nat.le_refl _)) (hL.below hb) htl)
 have HPP : Box (parseP t = match scanRead t with | .bad l c e => .err l c e | .good l => match readP smP primeErr ntP l with | .error f => .err f.line f.col f.err | .ok s => if scErr s = 0 then .ok s else .err 0 0 (scErr s)) := ⟨rfl⟩
 generalize parseP t = out at *
 have HNZ : Box (∀ a b e, scanRead t = .bad a b e → e ≠ 0) := ⟨fun a b e h => scanRead_bad h⟩
 generalize scanRead t = sr at *
 clear hS hL hto hb0
 go_enter Tryz.func8, Tryz.ntmps8
 go_upto_region 1 with (fail)
 rw [← hW0]
 clear hW0
 go_wp2_with fail
 refine (HSC.out _ HB0.out).mono ?_
 rintro e w1 ⟨hp, hb1⟩
 have HB1 := Lib.hid (HB0.out.trans (hb1.mono HB0.out.size))
 have HP1 := Lib.hid (HP0.out.below hb1 HP0.out.lt)
 have HQ1 := Lib.hid (HQ0.out.below hb1 HQ0.out.lt)
 have hPQ : w.heap.size ≠ w.heap.size + 1 := by omega
 have hQP : w.heap.size + 1 ≠ w.heap.size := by omega
 clear hb1 HP0 HQ0 HB0 HSC
 cases sr with
 | bad sl sc se =>
   have hse := HNZ.out _ _ _ rfl
   have hseb : (se != 0) = true := by rw [bne_iff_ne]; exact hse
   have HE : Box (out = .err sl sc se) := ⟨HPP.out⟩
   obtain rfl := show e = .returned (.tuple #[.slice Option.none 0 0, .agg #[.int .i64 sl, .int .i64 sc], .int .i64 se]) from hp
   clear HPP HNZ HTO hse hp
   obtain ⟨W2, hW2⟩ : ∃ W2, W2 = w1.alloc (.cells #[.int .i64 sl, .int .i64 sc] 31) := ⟨_, rfl⟩
   have hba : Below w1.heap.size w1 W2 := by rw [hW2]; exact (Below.refl _ _).alloc (Nat.le_refl _) _
   have HU : Hid (Cells W2 w1.heap.size 31 [.int .i64 sl, .int .i64 sc]) := Lib.hid (by rw [hW2]; exact Cells.new w1 31 #[.int .i64 sl, .int .i64 sc])
   have HP2 := Lib.hid (HP1.out.below hba HP1.out.lt)
   have HQ2 := Lib.hid (HQ1.out.below hba HQ1.out.lt)
   have HB2 := Lib.hid (HB1.out.trans (hba.mono HB1.out.size))
   have hUQ : w1.heap.size ≠ w.heap.size + 1 := by have := HQ1.out.lt; omega
   have hUP : w1.heap.size ≠ w.heap.size := by have := HP1.out.lt; omega
   go_upto_region 2 with (fail)
   rw [← hW2]
   clear hW2 hba HP1 HQ1 HB1
   generalize w1.heap.size = U at *
   obtain ⟨p0, p1⟩ := cel2 HP2.out
   obtain ⟨q0, q1⟩ := cel2 HQ2.out
   obtain ⟨u0, u1⟩ := cel2 HU.out
   have f0 := HP2.out.free 0
   have f1 := HP2.out.free 1
   have f2 := HQ2.out.free 0
   have f3 := HQ2.out.free 1
   go_wp2_with fail
   go_region
   go_wp2_with fail
   obtain ⟨c1, c2, _, hbe⟩ := two_set HP2.out HQ2.out hPQ (.slice Option.none 0 0) (.slice Option.none 0 0) (.int .i64 sl) (.int .i64 sc)
   have hd1 : ∀ W : World, Below W.heap.size W W.drew := fun W => below_to_drew (Below.refl _ _)
   obtain ⟨z0, z1⟩ := cel2 (c1.below (hd1 _) c1.lt)
   obtain ⟨z2, z3⟩ := cel2 (c2.below (hd1 _) c2.lt)
   refine bodyPost_ret (v := .tuple #[.agg #[.slice Option.none 0 0, .slice Option.none 0 0], .agg #[.int .i64 sl, .int .i64 sc], .int .i64 se]) (by simp (maxDischargeDepth := 10) [results, Tryz.results8, go_sem, z0, z1, z2, z3]) rfl ⟨by rw [HE.out]; rfl, ?_⟩
   exact below_to_drew (hbe w.heap.size w HB2.out (Nat.le_refl _) (Nat.le_succ _))
 | good l =>
   obtain ⟨A, cT, baseT, rfl, ht⟩ := hp
   obtain ⟨hl1, hl2, hl3, hl4⟩ := HTO.out l rfl
   obtain ⟨A', cT', e1, htk1⟩ := TkT.of_toks ht
   cases e1
   have hcol : ∀ k, textAt l k 1 [58] = false := fun k => by
    cases hx : textAt l k 1 [58] with
    | false => rfl
    | true =>
      obtain ⟨hk, h1, h2⟩ := textAt_yes hx
      exact absurd h2 (hl4 _ (List.getElem_mem hk) h1).1
   have HPS : Box (∀ s, parseS smP primeErr ntP l = .ok s → ScSm s) := ⟨fun s h => readP_small hl1 hl3 hl4 (by rw [readP_readL smP primeErr ntP l hcol, ← parseS_eq]; exact h)⟩
   have HOUT : Box (out = match parseS smP primeErr ntP l with | .error f => .err f.line f.col f.err | .ok s => if scErr s = 0 then .ok s else .err 0 0 (scErr s)) := ⟨by
    rw [parseS_eq, ← readP_readL smP primeErr ntP l hcol]
    exact HPP.out⟩
   clear hcol
   clear HPP HNZ HTO
   -- the place of the scan, and the reader
   obtain ⟨W2, hW2⟩ : ∃ W2, W2 = (w1.alloc (.cells #[.int .i64 0, .int .i64 0] 31)).alloc (.cells #[.slice A l.length cT, .int .i64 0, .int .i64 0, .int .i64 0, .int .i64 0] 90) := ⟨_, rfl⟩
   have hba : Below w1.heap.size w1 W2 := by rw [hW2]; exact ((Below.refl _ _).alloc (Nat.le_refl _) _).alloc (by simp) _
   have HRD : Hid (Cells W2 (w1.heap.size + 1) 90 (rdS A l cT ⟨0, 0, 0, 0⟩)) := Lib.hid (by
    have h := Cells.new (w1.alloc (.cells #[.int .i64 0, .int .i64 0] 31)) 90 #[.slice A l.length cT, .int .i64 0, .int .i64 0, .int .i64 0, .int .i64 0]
    rw [World.size_alloc] at h
    rw [hW2]
    exact h)
   have HP2 := Lib.hid (HP1.out.below hba HP1.out.lt)
   have HQ2 := Lib.hid (HQ1.out.below hba HQ1.out.lt)
   have HB2 := Lib.hid (HB1.out.trans (hba.mono HB1.out.size))
   have HTK := Lib.hid ((htk1.lift hba))
   have HTR : Hid (TkT W2 (w1.heap.size + 1) A l) := Lib.hid ((htk1.kpt (E := []) (KpT.of_below hba) (by simp) (by simp) (Nat.le_refl _)).up (Nat.le_succ _))
   have hrw : w.heap.size + 1 < w1.heap.size := HQ1.out.lt
   go_upto_region 5 with (fail)
   rw [← hW2]
   clear hW2 hba HP1 HQ1 HB1 ht htk1
   have hrx : w.heap.size + 1 < w1.heap.size + 1 := by omega
   generalize w1.heap.size + 1 = r at *
   clear hrw
   have HT1 := Lib.hid (takeL_any r cT A l ⟨0, 0, 0, 0⟩ 1 [112, 114, 105, 109, 101, 115] W2 HRD.out HTK.out (Nat.zero_le _) (by omega))
   have hk1 := takeS_le l 1 [112, 114, 105, 109, 101, 115] ⟨0, 0, 0, 0⟩ (Nat.zero_le _)
   obtain ⟨⟨t1, st1⟩, hx1⟩ : ∃ x, takeS l 1 [112, 114, 105, 109, 101, 115] ⟨0, 0, 0, 0⟩ = x := ⟨_, rfl⟩
   have HX1 : Box (takeS l 1 [112, 114, 105, 109, 101, 115] ⟨0, 0, 0, 0⟩ = (t1, st1)) := ⟨hx1⟩
   rw [hx1] at HT1 hk1
   dsimp only at hk1
   clear hx1
   obtain ⟨k0, x0, n0, d0, ro, l0, o0⟩ := t1
   go_wp2_with fail
   refine HT1.out.mono ?_
   rintro e1 w3 ⟨⟨rv1, rfl, hrow1⟩, hc1, hr1⟩
   dsimp only at hc1 hrow1 ⊢
   obtain ⟨AR1, cr1, rfl, _⟩ := hrow1.shape
   obtain ⟨W4, hW4⟩ : ∃ W4, W4 = (w3.alloc (.cells #[.int .i64 k0, .string ⟨x0.toArray⟩, .string ⟨n0.toArray⟩, .string ⟨d0.toArray⟩, .slice AR1 ro.length cr1, .int .i64 l0, .int .i64 o0] 92)).alloc (.cells #[.slice Option.none 0 0, .slice Option.none 0 0] 29) := ⟨_, rfl⟩
   have hba : Below w3.heap.size w3 W4 := by rw [hW4]; exact ((Below.refl _ _).alloc (Nat.le_refl _) _).alloc (by simp) _
   have HF4 : Hid (Cells W4 w3.heap.size 92 (tokVals ⟨k0, x0, n0, d0, ro, l0, o0⟩ (.slice AR1 ro.length cr1))) := Lib.hid (by rw [hW4]; exact (Cells.new w3 92 #[.int .i64 k0, .string ⟨x0.toArray⟩, .string ⟨n0.toArray⟩, .string ⟨d0.toArray⟩, .slice AR1 ro.length cr1, .int .i64 l0, .int .i64 o0]).alloc _)
   have HS4 : Hid (Cells W4 (w3.heap.size + 1) 29 [.slice Option.none 0 0, .slice Option.none 0 0]) := Lib.hid (by
    have h := Cells.new (w3.alloc (.cells #[.int .i64 k0, .string ⟨x0.toArray⟩, .string ⟨n0.toArray⟩, .string ⟨d0.toArray⟩, .slice AR1 ro.length cr1, .int .i64 l0, .int .i64 o0] 92)) 29 #[.slice Option.none 0 0, .slice Option.none 0 0]
    rw [World.size_alloc] at h
    rw [hW4]
    exact h)
   have hr3 : r < w3.heap.size := hc1.lt
   have HPS4 : Hid (PS w r w3.heap.size (w3.heap.size + 1) A cT l ⟨k0, x0, n0, d0, ro, l0, o0⟩ W4 st1 (.slice Option.none 0 0) [] (.slice Option.none 0 0) []) := Lib.hid
    ⟨(HB2.out.trans (hr1.low.mono (by omega))).trans (hba.mono (Nat.le_trans HB2.out.size (hr1.low.size))), hrx, hr3, Nat.lt_succ_self _, hc1.below hba hr3,
      (HTR.out.kpt (hr1.kp.mono (Nat.le_of_lt HRD.out.lt)) (by decide) (by decide) (Nat.le_refl _)).kpt (E := []) (KpT.of_below (hba.mono (Nat.le_of_lt hr3))) (by simp) (by simp) (Nat.le_refl _),
      (hr1.cells HP2.out (by decide)).below hba (by omega), (hr1.cells HQ2.out (by decide)).below hba (by omega), ⟨_, HF4.out⟩, HS4.out, PrO.nil _ _, VcO.nil _ _⟩
   go_upto_block 0 with (fail)
   rw [← hW4]
   clear hW4 hba HF4 HS4 hc1 hr1 HP2 HQ2 HB2 HTK HTR HT1 HRD hrow1
   generalize w3.heap.size = F at *
   generalize hSe : F + 1 = S at *
   clear hSe hr3
   obtain ⟨psF, stF, HXP⟩ : ∃ psF stF, Box (primesS smP l (l.length + 1) st1 [] = (psF, stF)) := ⟨_, _, ⟨rfl⟩⟩
   go_cut [11, 12, 13] from 33 to 71 (fun s11 s12 s13 wx => ∃ pv, stF.k ≤ l.length ∧ psF.length ≤ 1000 ∧ PS w r F S A cT l ⟨k0, x0, n0, d0, ro, l0, o0⟩ wx stF pv psF (.slice Option.none 0 0) [])
   case first =>
    go_wp2_with fail
    go_loopw [] (fun wr => ∃ (st : Rs) (ps : List Int) (pv : Value) (f : Nat), st.k ≤ l.length ∧ ps.length ≤ st.k ∧ l.length - st.k < f ∧ PS w r F S A cT l ⟨k0, x0, n0, d0, ro, l0, o0⟩ wr st pv ps (.slice Option.none 0 0) [] ∧ Box (primesS smP l f st ps = (psF, stF))) (fun wr => l.length - plr r wr)
    case atStart => exact ⟨st1, [], _, l.length + 1, hk1, by simp, by omega, HPS4.out, HXP⟩
    case round =>
     clear HPS4 HXP HOUT HPS
     obtain ⟨st, ps, pv, f, hk, hpl, hf, hps, HRX⟩ := hrel
     have hpc := plr_eq hps.rc
     have HI := Lib.hid (isL_any r st.k cT A l st.ln st.co st.e 2 [] wr hps.rc hps.tkw hk)
     have HR := Lib.hid hps
     clear hps
     cases hi : isB l st.e st.k 2 [] with
     | false =>
       rw [hi] at HI
       have HXE : Box ((ps, st) = (psF, stF)) := ⟨by
        rw [← HRX.out]
        cases f with
        | zero => rfl
        | succ f => rw [primesS, hi]; rfl⟩
       obtain ⟨eN, e3⟩ := Prod.mk.inj HXE.out
       subst eN e3
       go_wp2_with fail
       refine HI.out.mono ?_
       rintro e V ⟨rfl, hb⟩
       go_wp2_with fail
       go_meet
       exact ⟨pv, hk, by omega, HR.out.below hb⟩
     | true =>
       rw [hi] at HI
       obtain ⟨he0, hjk, hq, hta⟩ := isB_kind hi
       obtain ⟨f, rfl⟩ : ∃ f', f = f' + 1 := ⟨f - 1, by omega⟩
       have HXE : Box ((match smP (l[st.k]'hjk).num (l[st.k]'hjk).den with | some n => primesS smP l f ⟨st.k + 1, st.ln, st.co, st.e⟩ (ps ++ [n]) | none => (ps, failS l st 27)) = (psF, stF)) := ⟨by rw [← HRX.out, primesS, hi, if_pos rfl, hta]; rfl⟩
       obtain ⟨nv, dv, b, hsm, hsp⟩ := fSmall_tok (hl3 _ (List.getElem_mem hjk) hq)
       rw [hsp] at HXE
       have HSM := Lib.hid hsm
       clear hsm hsp hta HRX hi
       go_wp2_with fail
       refine HI.out.mono ?_
       rintro e V ⟨rfl, hbV⟩
       replace HR := Lib.hid (HR.out.below hbV)
       clear hbV HI
       obtain ⟨b1, o1, rv, rfl, _, _, _, _, _, p2, p3, _⟩ := HR.out.tk.at_ hjk
       obtain ⟨c0, c1, _⟩ := cel5 HR.out.rc
       have hki : (0 : Int) ≤ (st.k : Int) := by omega
       have hkl : (st.k : Int) < (l.length : Int) := by omega
       generalize l[st.k]'hjk = tk at *
       obtain ⟨q, a1, a2, a3, ar, a5, a6⟩ := tk
       dsimp only at *
       have hB : Below V.heap.size V V.drew := below_to_drew (Below.refl _ _)
       go_wp2_with fail
       go_region_held3 (fun w' => w'.cell? ⟨r, 0, Option.none⟩ = some (.slice (some ⟨b1, o1, Option.none⟩) l.length cT) ∧ w'.cell? ⟨r, 1, Option.none⟩ = some (.int .i64 st.k) ∧ w'.cell? ⟨b1, o1 + st.k * 7 + 2, Option.none⟩ = some (.string ⟨a2.toArray⟩) ∧ w'.cell? ⟨b1, o1 + st.k * 7 + 3, Option.none⟩ = some (.string ⟨a3.toArray⟩))
        (first | exact ⟨keep_cell c0 hB, keep_cell c1 hB, keep_cell p2 hB, keep_cell p3 hB⟩ | go_keep)
        ((first
          | (go_at_call 30; (with_reducible refine (HSM.out _).mono ?_); rintro e wA ⟨rfl, hbk⟩; replace hB := hB.trans (hbk.mono hB.size); clear hbk)))
       replace HR := Lib.hid (HR.out.below hB)
       clear hB p2 p3 HSM c0 c1
       by_cases hbd : b = true ∧ dv = 1
       ·rw [if_pos hbd] at HXE
        obtain ⟨rfl, rfl⟩ := hbd
        obtain ⟨css, hlo⟩ := HR.out.prs
        have hown := hlo.own
        have HLO := Lib.hid hlo
        obtain ⟨y0, y1⟩ := cel2 HR.out.cs
        obtain ⟨y2, y3⟩ := cel2 (HR.out.cs.alloc (.cells #[.int .i64 nv] 3))
        have hsw : S < wA.heap.size := HR.out.cs.lt
        have hw0 : IntKind.i64.wrap ((st.k : Int) + 1) = (st.k : Int) + 1 := IntWalk.i64_in _ (by omega)
        clear hlo
        go_upto_region 12 with (at_builtin; refine wpList_append_own _ rfl _ _ _ rfl (S + 1) 3 i0 (.int .i64 0) 1 8 Tryz.underlying26 hi0 hz0 hz1 hz2 rfl (by decide) _ _ _ rfl (hown.alloc _) ⟨wA.heap.size, 0, Option.none⟩ 1 1 [.int .i64 nv] rfl rfl (cell_one_new _ _ _) (by intro u hu; simp at hu; subst hu; rfl) (by unfold maxLen; omega) (by omega) (by simp; omega) ?_; intro v9 w9 hown9 hg9 _; obtain ⟨g9, c9, rfl, _, _⟩ := hown9.form (by omega); obtain ⟨hxB, hloB, hxN, hbN⟩ := cell_grow (j := 0) (Q := fun _ => IntQ) (x := nv) (cs := [.int .i64 nv]) (fun _ h => h) HLO.out HR.out.cs (by decide) rfl rfl hg9 hown9; have fB := hxB.free 0; obtain ⟨sB, _⟩ := cel2 hxB)
        have HRN := Lib.hid (HR.out.above (hbN S (Nat.le_succ _) (Nat.le_refl _) (Nat.le_of_lt hsw)) hxN ⟨_, hloB⟩ (VcO.nil _ _))
        clear hxN hloB hbN hxB fB sB hg9 hown9 hown HLO y0 y1 y2 y3 HR
        generalize (w9.setCell ⟨S, 0, Option.none⟩ (.slice (some ⟨g9, 0, Option.none⟩) (ps.length + 1) c9)) = WN at *
        obtain ⟨c0, c1, _⟩ := cel5 HRN.out.rc
        have f1 := HRN.out.rc.free 1
        have hcM : Cells (WN.setCell ⟨r, 1, Option.none⟩ (.int .i64 ((st.k : Int) + 1))) r 90 (rdS _ l cT ⟨st.k + 1, st.ln, st.co, st.e⟩) := HRN.out.rc.set 1 _
        have HRM := Lib.hid (HRN.out.rk ((RK.refl r WN).store HRN.out.rc (.int .i64 ((st.k : Int) + 1))) hcM)
        clear hcM HRN
        go_wp2_with fail
        go_roundw
        case rel => exact ⟨⟨st.k + 1, st.ln, st.co, st.e⟩, ps ++ [nv], _, f, by show st.k + 1 ≤ l.length; omega, by simp; omega, by show l.length - (st.k + 1) < f; omega, HRM.out, HXE⟩
        case measure => rw [plr_eq HRM.out.rc, hpc]; show l.length - (st.k + 1) < l.length - st.k; omega
       ·rw [if_neg hbd] at HXE
        obtain ⟨eN, e3⟩ := Prod.mk.inj HXE.out
        subst eN e3
        have HF := Lib.hid (failL_any r st.k cT (some ⟨b1, o1, Option.none⟩) l st.ln st.co st.e 27 _ HR.out.rc HR.out.tkw hk (by omega))
        cases b with
        | false =>
          go_wp2_with fail
          refine HF.out.mono ?_
          rintro e1 wF ⟨rfl, hcF, hrF⟩
          have HRF := Lib.hid (HR.out.rk (st' := failS l st 27) hrF hcF)
          go_wp2_with fail
          go_meet
          exact ⟨pv, hk, by omega, HRF.out⟩
        | true =>
          have hdv : (dv != 1) = true := by simpa using hbd
          go_wp2_with fail
          refine HF.out.mono ?_
          rintro e1 wF ⟨rfl, hcF, hrF⟩
          have HRF := Lib.hid (HR.out.rk (st' := failS l st 27) hrF hcF)
          go_wp2_with fail
          go_meet
          exact ⟨pv, hk, by omega, HRF.out⟩
   case rest =>
    obtain ⟨pv, hkF, hpF, hps⟩ := hcut
    have HR := Lib.hid hps
    clear hps HPS4
    have H6 := Lib.hid (takeL_any r cT A l stF 6 [] wc HR.out.rc HR.out.tkw hkF (by omega))
    have hk2 := takeS_le l 6 [] stF hkF
    obtain ⟨⟨t2, st2⟩, hx2⟩ : ∃ x, takeS l 6 [] stF = x := ⟨_, rfl⟩
    rw [hx2] at H6 hk2
    dsimp only at hk2
    have HFS : Box (firstS smP l = (⟨k0, x0, n0, d0, ro, l0, o0⟩, psF, st2)) := ⟨by
     unfold firstS
     rw [HX1.out]
     dsimp only
     rw [HXP.out]
     dsimp only
     rw [hx2]⟩
    clear HX1 HXP hx2
    go_wp2_with fail
    refine H6.out.mono ?_
    rintro e1 w5 ⟨⟨rv2, rfl, _⟩, hc5, hr5⟩
    dsimp only at hc5 ⊢
    replace HR := Lib.hid (HR.out.rk (st' := st2) hr5 hc5)
    clear hc5 hr5 H6
    obtain ⟨y0, y1⟩ := cel2 HR.out.cs
    have HPC := Lib.hid (primeCheck_any pv psF _ w5 HR.out.prs.irow.row)
    go_wp2_with fail
    refine HPC.out.mono ?_
    rintro e w6 ⟨rfl, rfl⟩
    clear HPC y0 y1
    obtain ⟨c0, c1, _, _, c4⟩ := cel5 HR.out.rc
    go_upto_region 15 with (fail)
    go_cut [85] from 77 to 84 (fun s85 wx => s85 = .bool (decide (st2.e = 0 ∧ primeErr psF ≠ 0)) ∧ wx = w5)
    case first =>
     by_cases he : st2.e = 0
     ·have heb : (st2.e == 0) = true := by simpa using he
      by_cases hp : primeErr psF = 0
      ·have hpb : (primeErr psF != 0) = false := by simpa using hp
       go_wp2_with fail
       go_meet
       exact ⟨congrArg Value.bool (decide_eq_false fun h => h.2 hp).symm, rfl⟩
      ·have hpb : (primeErr psF != 0) = true := by simpa using hp
       go_wp2_with fail
       go_meet
       exact ⟨congrArg Value.bool (decide_eq_true ⟨he, hp⟩).symm, rfl⟩
     ·have heb : (st2.e == 0) = false := by simpa using he
      go_wp2_with fail
      go_meet
      exact ⟨congrArg Value.bool (decide_eq_false fun h => he h.1).symm, rfl⟩
    case rest =>
     obtain ⟨rfl, rfl⟩ := hcut
     by_cases hbad : st2.e = 0 ∧ primeErr psF ≠ 0
     ·have HE : Box (out = .err l0 o0 (primeErr psF)) := ⟨by
       rw [HOUT.out]
       unfold parseS
       rw [HFS.out]
       dsimp only
       rw [if_pos hbad]⟩
      rw [decide_eq_true hbad]
      clear hbad HOUT HPS HFS
      obtain ⟨p0, p1⟩ := cel2 HR.out.cp
      obtain ⟨q0, q1⟩ := cel2 HR.out.cq
      have f0 := HR.out.cp.free 0
      have f1 := HR.out.cp.free 1
      have f2 := HR.out.cq.free 0
      have f3 := HR.out.cq.free 1
      obtain ⟨rvF, hcf⟩ := HR.out.cf
      unfold tokVals at hcf
      obtain ⟨_, _, _, _, _, u5, u6⟩ := cel7 hcf
      have hFP : F ≠ w.heap.size := by have := HR.out.hr; have := HR.out.hF; omega
      have hFQ : F ≠ w.heap.size + 1 := by have := HR.out.hr; have := HR.out.hF; omega
      go_wp2_with fail
      go_region
      go_wp2_with fail
      obtain ⟨c1, c2, _, hbe⟩ := two_set HR.out.cp HR.out.cq hPQ (.slice Option.none 0 0) (.slice Option.none 0 0) (.int .i64 l0) (.int .i64 o0)
      have hd1 : ∀ W : World, Below W.heap.size W W.drew := fun W => below_to_drew (Below.refl _ _)
      obtain ⟨z0, z1⟩ := cel2 (c1.below (hd1 _) c1.lt)
      obtain ⟨z2, z3⟩ := cel2 (c2.below (hd1 _) c2.lt)
      refine bodyPost_ret (v := .tuple #[.agg #[.slice Option.none 0 0, .slice Option.none 0 0], .agg #[.int .i64 l0, .int .i64 o0], .int .i64 (primeErr psF)]) (by simp (maxDischargeDepth := 10) [results, Tryz.results8, go_sem, z0, z1, z2, z3]) rfl ⟨by rw [HE.out]; rfl, ?_⟩
      exact below_to_drew (hbe w.heap.size w HR.out.low (Nat.le_refl _) (Nat.le_succ _))
     ·have HNB : Box (st2.e = 0 → primeErr psF = 0) := ⟨fun h => Decidable.not_not.1 fun h2 => hbad ⟨h, h2⟩⟩
      obtain ⟨vsF, stV, HXV⟩ : ∃ vsF stV, Box (voicesS ntP l psF (l.length + 1) st2 [] = (vsF, stV)) := ⟨_, _, ⟨rfl⟩⟩
      have HO2 : Box (out = if stV.e ≠ 0 then .err stV.ln stV.co stV.e else if scErr ⟨psF, vsF⟩ = 0 then .ok ⟨psF, vsF⟩ else .err 0 0 (scErr ⟨psF, vsF⟩)) := ⟨by
       rw [HOUT.out]
       unfold parseS
       rw [HFS.out]
       dsimp only
       rw [if_neg hbad, HXV.out]
       dsimp only
       by_cases hz : stV.e = 0
       ·rw [if_neg (fun h => h hz), if_neg (fun h => h hz)]
       ·rw [if_pos hz, if_pos hz]⟩
      have HSM : Box (stV.e = 0 → ScSm ⟨psF, vsF⟩) := ⟨fun hz => HPS.out _ (by
       unfold parseS
       rw [HFS.out]
       dsimp only
       rw [if_neg hbad, HXV.out]
       dsimp only
       rw [if_neg (fun h => h hz)])⟩
      rw [decide_eq_false hbad]
      clear hbad HOUT HPS HFS c0 c1 c4
      go_wp2_with fail
      go_loopw [] (fun wr => ∃ (st : Rs) (vs : List Vc) (vv : Value) (f : Nat), st.k ≤ l.length ∧ (st.e = 0 → vs.length ≤ st.k) ∧ vs.length ≤ 1001 ∧ (st.e = 0 → l.length - st.k < f) ∧ (st.e = 0 → primeErr psF = 0) ∧ PS w r F S A cT l ⟨k0, x0, n0, d0, ro, l0, o0⟩ wr st pv psF vv vs ∧ Box (voicesS ntP l psF f st vs = (vsF, stV))) (fun wr => mer r l.length wr)
      case atStart => exact ⟨st2, [], _, l.length + 1, hk2, fun _ => Nat.zero_le _, by simp, fun _ => by omega, HNB.out, HR.out, HXV⟩
      case round =>
       clear HR HXV HNB
       obtain ⟨st, vs, vv, f, hk, hv1, hv2, hf, hpe, hps, HRX⟩ := hrel
       have hpc := mer_eq (n := l.length) hps.rc
       have HR := Lib.hid hps
       obtain ⟨c0, c1, c2, c3, c4⟩ := cel5 hps.rc
       clear hps
       by_cases he : st.e = 0
       ·have heb : (st.e == 0) = true := by simpa using he
        by_cases hlt : st.k < l.length
        ·have hki : (0 : Int) ≤ (st.k : Int) := by omega
         have hkl : (st.k : Int) < (l.length : Int) := by omega
         obtain ⟨f, rfl⟩ : ∃ f', f = f' + 1 := ⟨f - 1, by have := hf he; omega⟩
         have hv1' := hv1 he
         have hf' := hf he
         have HP0 := Box.mk (hpe he)
         have hfd1 := tok_field1
         clear hv1 hf hpe
         go_wp2_with fail
         go_quiet (fail)
         replace HR := Lib.hid (HR.out.below (below_drewN (Below.refl _ _) nq))
         clear c0 c1 c2 c3 c4 heb
         generalize wr.drewN nq = V at *
         have HA := Lib.hid (takeL_any r cT A l st 1 [118, 111, 105, 99, 101] V HR.out.rc HR.out.tkw hk (by omega))
         have hka := takeS_le l 1 [118, 111, 105, 99, 101] st hk
         obtain ⟨⟨ta, sa⟩, hxa⟩ : ∃ x, takeS l 1 [118, 111, 105, 99, 101] st = x := ⟨_, rfl⟩
         rw [hxa] at HA hka
         dsimp only at hka
         have hkb := takeS_le l 1 [] sa hka
         obtain ⟨⟨tb, sb⟩, hxb⟩ : ∃ x, takeS l 1 [] sa = x := ⟨_, rfl⟩
         rw [hxb] at hkb
         dsimp only at hkb
         have hkc := takeS_le l 6 [] sb hkb
         obtain ⟨⟨tc, sc⟩, hxc⟩ : ∃ x, takeS l 6 [] sb = x := ⟨_, rfl⟩
         rw [hxc] at hkc
         dsimp only at hkc
         have hhd : headS l st = (tb.text, sc) := by
          unfold headS
          rw [hxa]
          dsimp only
          rw [hxb]
          dsimp only
          rw [hxc]
         have hmo := headS_mono l st hk
         rw [hhd] at hmo
         dsimp only at hmo
         have hme := evsS_mono ntP l psF (l.length + 1) sc [] hkc
         obtain ⟨esF, stE, HX3⟩ : ∃ esF stE, Box (evsS ntP l psF (l.length + 1) sc [] = (esF, stE)) := ⟨_, _, ⟨rfl⟩⟩
         rw [HX3.out] at hme
         dsimp only at hme
         have HXR : Box (voicesS ntP l psF f stE (vs ++ [⟨tb.text, esF⟩]) = (vsF, stV)) := ⟨by
          rw [← HRX.out, voicesS, if_pos ⟨he, hlt⟩, hhd]
          dsimp only
          rw [HX3.out]⟩
         have HB := Lib.hid (fun W (hc : Cells W r 90 (rdS A l cT sa)) (h : TkT W W.heap.size A l) => takeL_any r cT A l sa 1 [] W hc h hka (by omega))
         have HC := Lib.hid (fun W (hc : Cells W r 90 (rdS A l cT sb)) (h : TkT W W.heap.size A l) => takeL_any r cT A l sb 6 [] W hc h hkb (by omega))
         rw [hxb] at HB
         rw [hxc] at HC
         clear hxa hxb hxc hhd HRX
         obtain ⟨bk, bx, bn, bd, br, bl, bo⟩ := tb
         dsimp only at HB HXR hmo
         go_wp2_with fail
         refine HA.out.mono ?_
         rintro e1 w7 ⟨⟨rva, rfl, _⟩, hc7, hr7⟩
         dsimp only at hc7 ⊢
         replace HR := Lib.hid (HR.out.rk (st' := sa) hr7 hc7)
         clear hc7 hr7 HA
         go_wp2_with fail
         refine (HB.out _ HR.out.rc HR.out.tkw).mono ?_
         rintro e1 w8 ⟨⟨rvb, rfl, _⟩, hc8, hr8⟩
         dsimp only at hc8 ⊢
         replace HR := Lib.hid (HR.out.rk (st' := sb) hr8 hc8)
         clear hc8 hr8 HB
         obtain ⟨W9, hW9⟩ : ∃ W9, W9 = w8.alloc (.cells #[.string ⟨bx.toArray⟩, .slice Option.none 0 0] 48) := ⟨_, rfl⟩
         have hb9 : Below w8.heap.size w8 W9 := by rw [hW9]; exact (Below.refl _ _).alloc (Nat.le_refl _) _
         have HV := Lib.hid (show Cells W9 w8.heap.size 48 [.string ⟨bx.toArray⟩, .slice Option.none 0 0] by rw [hW9]; exact Cells.new w8 48 #[.string ⟨bx.toArray⟩, .slice Option.none 0 0])
         have HK := Lib.hid (RK.of_below hb9 (Nat.le_of_lt HR.out.rc.lt))
         have HCR := Lib.hid (HR.out.rc.below hb9 HR.out.rc.lt)
         go_upto_region 20 with (fail)
         rw [← hW9]
         clear hW9 hb9
         have hrv : r < w8.heap.size := HR.out.rc.lt
         have hSv : S < w8.heap.size := HR.out.cs.lt
         obtain ⟨VB, hVB⟩ : ∃ VB, VB = w8.heap.size := ⟨_, rfl⟩
         have HVB : Box (VB = w8.heap.size) := ⟨hVB⟩
         rw [← hVB] at HV hrv hSv ⊢
         clear hVB
         go_wp2_with fail
         refine (HC.out _ HCR.out (HK.out.tk HR.out.tkw)).mono ?_
         rintro e1 w10 ⟨⟨rvc, rfl, _⟩, hc10, hr10⟩
         dsimp only at hc10 ⊢
         replace HV := Lib.hid (hr10.cells HV.out (by decide))
         replace HK := Lib.hid (HK.out.trans hr10)
         replace HCR := Lib.hid hc10
         clear hc10 hr10 HC
         go_wp2_with fail
         go_loopw [] (fun wr3 => ∃ (st3 : Rs) (es : List Ev) (ev : Value) (f3 : Nat), st3.k ≤ l.length ∧ es.length ≤ st3.k ∧ l.length - st3.k < f3 ∧ RK r w8 wr3 ∧ Cells wr3 r 90 (rdS A l cT st3) ∧ Cells wr3 VB 48 [.string ⟨bx.toArray⟩, ev] ∧ EvO wr3 (VB + 1) ev es ∧ Box (evsS ntP l psF f3 st3 es = (esF, stE))) (fun wr3 => l.length - plr r wr3)
         case atStart => exact ⟨sc, [], _, l.length + 1, hkc, by simp, by omega, HK.out, HCR.out, HV.out, EvO.nil _ _, HX3⟩
         case round =>
          clear HV HK HCR HX3
          obtain ⟨st3, es, ev, f3, hk3, hes, hf3, hrk, hc, hv, hev, HR3⟩ := hrel
          have hpc3 := plr_eq hc
          have HRP := Lib.hid (HR.out.rk (st' := st3) hrk hc)
          have HI := Lib.hid (isL_any r st3.k cT A l st3.ln st3.co st3.e 2 [] _ hc HRP.out.tkw hk3)
          have HK := Lib.hid hrk
          have HV := Lib.hid hv
          have HEV := Lib.hid hev
          clear hrk hc hv hev
          cases hi : isB l st3.e st3.k 2 [] with
          | false =>
            rw [hi] at HI
            have HXE : Box ((es, st3) = (esF, stE)) := ⟨by rw [← HR3.out, evsS_end hi]⟩
            obtain ⟨eN, e3⟩ := Prod.mk.inj HXE.out
            subst eN e3
            go_wp2_with fail
            refine HI.out.mono ?_
            rintro e V3 ⟨rfl, hb⟩
            replace HRP := Lib.hid (HRP.out.below hb)
            replace HV := Lib.hid (HV.out.below hb HV.out.lt)
            replace HEV := Lib.hid (HEV.out.below hb)
            clear hb HI HR3 HXE hi HK HR
            obtain ⟨AE, cE, rfl, hE1, hE2, hE3⟩ := HEV.out.shape
            obtain ⟨css, hlo⟩ := HRP.out.vso
            have hown := hlo.own
            have HQV := Lib.hid (show VcQ V3 V3.heap.size ⟨bx, es⟩ [.string ⟨bx.toArray⟩, .slice AE es.length cE] from ⟨AE, cE, rfl, hE1, hE2, hE3⟩)
            have HLOv := Lib.hid hlo
            obtain ⟨s0, s1⟩ := cel2 HRP.out.cs
            obtain ⟨x0, x1⟩ := cel2 HV.out
            have hsw : S < V3.heap.size := HRP.out.cs.lt
            clear hE1 hE2 hE3 hlo
            generalize hel : es.length = el at *
            clear hel
            go_wp2_with (at_builtin; refine wpList_append_own _ rfl _ _ _ rfl (S + 1) 48 kv (.agg #[.string ⟨#[]⟩, .slice Option.none 0 0]) 2 40 Tryz.underlying27 hiv fz0 fz1 fz2 rfl (by decide) _ _ _ rfl (hown.alloc _) ⟨V3.heap.size, 0, Option.none⟩ 1 1 [.string ⟨bx.toArray⟩, .slice AE el cE] rfl rfl (World.news_of_block (cs := #[.string ⟨bx.toArray⟩, .slice AE el cE]) (t := 48) (fr := (0, 0)) (heap_alloc_new V3 _)) (by simp [Value.oneCell']) (by unfold maxLen; omega) (by omega) (by simp; omega) ?_; intro v9 w9 hown9 hg9 _; obtain ⟨g9, c9, rfl, _, _⟩ := hown9.form (by omega); obtain ⟨hxB, hloB, hxN, hbN⟩ := cell_grow (j := 1) (Q := fun w => VcQ w w.heap.size) (x := ⟨bx, es⟩) (fun hk h => h.keep hk (by decide) (by decide) (by decide) hk.size) HLOv.out HRP.out.cs (by decide) HQV.out rfl hg9 hown9; have hkN := grow_kpt (j := 1) (v' := .slice (some ⟨g9, 0, Option.none⟩) (vs.length + 1) c9) HLOv.out hxB hg9; have fB := hxB.free 1; obtain ⟨_, sB⟩ := cel2 hxB)
            have HRN := Lib.hid (HRP.out.above (hbN S (Nat.le_succ _) (Nat.le_refl _) (Nat.le_of_lt hsw)) hxN (HRP.out.prs.kpt hkN (by decide)) ⟨_, hloB⟩)
            clear hxB hloB hxN hbN fB sB hkN
            go_roundw
            case rel => exact ⟨st3, vs ++ [⟨bx, es⟩], _, f, hk3, fun h => by have := hmo.2.2 (hme.2.2 h); simp; omega, by simp; omega, fun h => by have := hmo.2.2 (hme.2.2 h); omega, fun _ => HP0.out, HRN.out, HXR⟩
            case measure =>
             rw [mer_eq (n := l.length) HRN.out.rc, hpc, if_pos he]
             by_cases h : st3.e = 0
             ·have := hmo.2.2 (hme.2.2 h)
              rw [if_pos h]
              omega
             ·rw [if_neg h]
              omega
          | true =>
            rw [hi] at HI
            obtain ⟨he3, hjk, _, _⟩ := isB_kind hi
            obtain ⟨f3, rfl⟩ : ∃ f', f3 = f' + 1 := ⟨f3 - 1, by omega⟩
            have hmx := eventS_mono ntP l psF st3 hk3
            obtain ⟨⟨ex, stx⟩, hex⟩ : ∃ x, eventS ntP l psF st3 = x := ⟨_, rfl⟩
            have HEVT := Lib.hid (fun W (h0 : Below w.heap.size w W) h1 h2 h3 => eventL_any r cT A l pv psF st3 w W HS.out (by have := HR.out.hr; omega) h0 HP0.out h1 h2 h3 hk3 hl1 hl3)
            have HXE : Box (evsS ntP l psF f3 stx (es ++ [ex]) = (esF, stE)) := ⟨by rw [← HR3.out, evsS, hi, if_pos rfl, hex]⟩
            rw [hex] at HEVT hmx
            dsimp only at hmx
            have hmx4 := hmx.2.2.2 hi
            clear hex HR3
            obtain ⟨en, ed, ens⟩ := ex
            dsimp only at HEVT
            go_wp2_with fail
            refine HI.out.mono ?_
            rintro e V3 ⟨rfl, hb⟩
            replace HK := Lib.hid (HK.out.trans (RK.of_below hb (Nat.le_of_lt HRP.out.rc.lt)))
            replace HRP := Lib.hid (HRP.out.below hb)
            replace HV := Lib.hid (HV.out.below hb HV.out.lt)
            replace HEV := Lib.hid (HEV.out.below hb)
            clear hb HI hi
            obtain ⟨s0, s1⟩ := cel2 HRP.out.cs
            obtain ⟨x0, x1⟩ := cel2 HV.out
            have hB : Below V3.heap.size V3 V3.drew := below_to_drew (Below.refl _ _)
            have hrv3 : VB < V3.heap.size := HV.out.lt
            have HES : Box (es.length ≤ st3.k) := ⟨hes⟩
            go_wp2_with fail
            go_region_law (first
             | (refine step_append_lies _ (by rfl) _ _ _ (by rfl) (VB + 1) 54 je _ 3 56 Tryz.underlying46 hie gz0 gz1 gz2 rfl (by omega) ev es.length css.flatten (by rfl) (hownA.alloc _) ⟨wA.heap.size, 0, Option.none⟩ 1 1 [.string ⟨en.toArray⟩, .string ⟨ed.toArray⟩, .slice A9 ens.length c9] (by rfl) (by rfl) (World.news_of_block (cs := #[.string ⟨en.toArray⟩, .string ⟨ed.toArray⟩, .slice A9 ens.length c9]) (t := 54) (fr := (0, 0)) (heap_alloc_new wA _)) (by simp [Value.oneCell']) (by omega) (by unfold maxLen; omega) (by omega) (by simp; omega) (wA.heap.size + 1) (by simp) ?_; intro gB cB wB hownB hgB hatB hltB; obtain ⟨hxB, hloB, hxN, hbN⟩ := cell_grow (j := 1) (Q := fun w => EvQ w w.heap.size) (x := ⟨en, ed, ens⟩) (fun hk h => h.keep hk (by decide) (by decide) hk.size) hloA hxA (by decide) ⟨A9, c9, rfl, hc91, hc92, hnt9⟩ rfl hgB hownB; have fB := hxB.free 1; obtain ⟨_, sB⟩ := cel2 hxB)
             | (go_simp; go_at_call 33; (with_reducible refine (HEVT.out _ (HRP.out.below hB).low (HRP.out.below hB).prs.irow (HRP.out.below hB).rc (HRP.out.below hB).tkw).mono ?_); rintro e wA ⟨⟨A9, c9, rfl, hc91, hc92, hnt9⟩, hcA, hrA⟩; have hxA := hrA.cells (HV.out.below hB HV.out.lt) (by decide); obtain ⟨v0, v1⟩ := cel2 hxA; obtain ⟨v3, v4⟩ := cel2 (hxA.alloc (.cells #[.string ⟨en.toArray⟩, .string ⟨ed.toArray⟩, .slice A9 ens.length c9] 54)); obtain ⟨css, hloA⟩ := (HEV.out.below hB).kpt hrA.kp (by decide) (by decide) (by decide); have hownA := hloA.own; have hKA := HK.out.trans ((RK.of_below hB (Nat.le_of_lt HRP.out.rc.lt)).trans hrA); have hwA := hxA.lt))
            all_goals
             have hvw : VB < wA.heap.size := hwA
             have hbV := hbN VB (Nat.le_succ _) (Nat.le_refl _) (Nat.le_of_lt hvw)
             have HKN := Lib.hid (show RK r w8 _ from ⟨hKA.low.trans (hbV.mono (Nat.le_of_lt hrv)), hKA.kp.trans ((KpT.of_below hbV).mono (Nat.le_of_eq HVB.out.symm))⟩)
             have HCN := Lib.hid (hcA.below hbV hrv)
             have HVN := Lib.hid hxN
             have HEN := Lib.hid (show EvO _ (VB + 1) _ _ from ⟨_, hloB⟩)
             clear hxB hloB hxN hbN fB sB hownB hgB hatB hltB hB hxA hloA hownA hKA hwA hvw hbV hcA hrA v0 v1 v3 v4 s0 s1 x0 x1
             go_wp2_with fail
             go_roundw
             case rel => exact ⟨stx, es ++ [⟨en, ed, ens⟩], _, f3, hmx.2.1, by have := HES.out; simp; omega, by omega, HKN.out, HCN.out, HVN.out, HEN.out, HXE⟩
             case measure => rw [plr_eq HCN.out, hpc3]; omega
        ·have hkl : ¬ (st.k : Int) < (l.length : Int) := by omega
         have HXE : Box ((vs, st) = (vsF, stV)) := ⟨by rw [← HRX.out, voicesS_end fun h => hlt h.2]⟩
         obtain ⟨eN, e3⟩ := Prod.mk.inj HXE.out
         subst eN e3
         have hes : (st.e != 0) = false := by simpa using he
         have HE : Box (out = if scErr ⟨psF, vs⟩ = 0 then .ok ⟨psF, vs⟩ else .err 0 0 (scErr ⟨psF, vs⟩)) := ⟨by rw [HO2.out, if_neg (fun h => h he)]⟩
         have hsm := HSM.out he
         clear HO2 HSM HRX HXE
         go_wp2_with fail
         go_quiet (fail)
         replace HR := Lib.hid (HR.out.below (below_drewN (Below.refl _ _) nq))
         change (wr.drewN nq).cell? _ = _ at c0 c1 c2 c3 c4
         generalize wr.drewN nq = V at *
         obtain ⟨AV, cV, rfl, hV1, hV2, hV3⟩ := HR.out.vso.shape
         have hir := HR.out.prs.irow
         obtain ⟨AP, cp, rfl, _⟩ := hir.shape
         have HSV : Hid (ScV V V.heap.size (.slice AP psF.length cp) (.slice AV vs.length cV) ⟨psF, vs⟩) := Lib.hid ⟨hir, AV, cV, rfl, hV1, hV2, hV3⟩
         have HCK := Lib.hid (check48_any _ _ ⟨psF, vs⟩ V (HS.out.below HR.out.low (Nat.le_refl _)) HSV.out hsm)
         obtain ⟨s0, s1⟩ := cel2 HR.out.cs
         clear hir hV1 hV2 hV3 hsm
         go_wp2_with fail
         refine HCK.out.mono ?_
         rintro e wK ⟨rfl, hbK⟩
         replace HR := Lib.hid (HR.out.below hbK)
         replace HSV := Lib.hid (HSV.out.lift hbK)
         clear hbK HCK s0 s1 c0 c1 c2 c3 c4
         obtain ⟨s0, s1⟩ := cel2 HR.out.cs
         obtain ⟨p0, p1⟩ := cel2 HR.out.cp
         obtain ⟨q0, q1⟩ := cel2 HR.out.cq
         have f0 := HR.out.cp.free 0
         have f1 := HR.out.cp.free 1
         have f2 := HR.out.cq.free 0
         have f3 := HR.out.cq.free 1
         by_cases hz : scErr ⟨psF, vs⟩ = 0
         ·have HE2 : Box (out = .ok ⟨psF, vs⟩) := ⟨by rw [HE.out, if_pos hz]⟩
          rw [hz]
          clear hz HE
          go_wp2_with fail
          have hset := two_set HR.out.cp HR.out.cq hPQ (.slice AP psF.length cp) (.slice AV vs.length cV) (.int .i64 0) (.int .i64 0)
          obtain ⟨c1', c2', hkE, hbe⟩ := hset
          obtain ⟨z0, z1⟩ := cel2 c1'
          obtain ⟨z2, z3⟩ := cel2 c2'
          refine bodyPost_ret (v := .tuple #[.agg #[(.slice AP psF.length cp), (.slice AV vs.length cV)], .agg #[.int .i64 0, .int .i64 0], .int .i64 0]) (by simp (maxDischargeDepth := 10) [results, Tryz.results8, go_sem, z0, z1, z2, z3]) rfl ⟨by rw [HE2.out]; exact ⟨_, _, rfl, HSV.out.keep hkE (by decide) (by decide) (by decide) (by decide) hkE.size⟩, ?_⟩
          exact hbe w.heap.size w HR.out.low (Nat.le_refl _) (Nat.le_succ _)
         ·have HE2 : Box (out = .err 0 0 (scErr ⟨psF, vs⟩)) := ⟨by rw [HE.out, if_neg hz]⟩
          have hzb : (scErr ⟨psF, vs⟩ != 0) = true := by rw [bne_iff_ne]; exact hz
          generalize scErr ⟨psF, vs⟩ = er at *
          clear hz HE
          go_wp2_with fail
          have hset := two_set HR.out.cp HR.out.cq hPQ (.slice Option.none 0 0) (.slice Option.none 0 0) (.int .i64 0) (.int .i64 0)
          obtain ⟨c1', c2', hkE, hbe⟩ := hset
          obtain ⟨z0, z1⟩ := cel2 c1'
          obtain ⟨z2, z3⟩ := cel2 c2'
          refine bodyPost_ret (v := .tuple #[.agg #[(.slice Option.none 0 0), (.slice Option.none 0 0)], .agg #[.int .i64 0, .int .i64 0], .int .i64 er]) (by simp (maxDischargeDepth := 10) [results, Tryz.results8, go_sem, z0, z1, z2, z3]) rfl ⟨by rw [HE2.out]; rfl, ?_⟩
          exact hbe w.heap.size w HR.out.low (Nat.le_refl _) (Nat.le_succ _)
       ·have heb : (st.e == 0) = false := by simpa using he
        have hen : (st.e != 0) = true := by simpa using he
        have HXE : Box ((vs, st) = (vsF, stV)) := ⟨by rw [← HRX.out, voicesS_end fun h => he h.1]⟩
        obtain ⟨eN, e3⟩ := Prod.mk.inj HXE.out
        subst eN e3
        have HE : Box (out = .err st.ln st.co st.e) := ⟨by rw [HO2.out, if_pos he]⟩
        clear HO2 HSM HRX HXE
        go_wp2_with fail
        go_quiet (fail)
        replace HR := Lib.hid (HR.out.below (below_drewN (Below.refl _ _) nq))
        change (wr.drewN nq).cell? _ = _ at c0 c1 c2 c3 c4
        generalize wr.drewN nq = V at *
        obtain ⟨p0, p1⟩ := cel2 HR.out.cp
        obtain ⟨q0, q1⟩ := cel2 HR.out.cq
        have f0 := HR.out.cp.free 0
        have f1 := HR.out.cp.free 1
        have f2 := HR.out.cq.free 0
        have f3 := HR.out.cq.free 1
        have hrP : r ≠ w.heap.size := by have := HR.out.hr; omega
        have hrQ : r ≠ w.heap.size + 1 := by have := HR.out.hr; omega
        go_wp2_with fail
        go_region
        go_wp2_with fail
        obtain ⟨c1', c2', _, hbe⟩ := two_set HR.out.cp HR.out.cq hPQ (.slice Option.none 0 0) (.slice Option.none 0 0) (.int .i64 st.ln) (.int .i64 st.co)
        have hd1 : ∀ W : World, Below W.heap.size W W.drew := fun W => below_to_drew (Below.refl _ _)
        obtain ⟨z0, z1⟩ := cel2 (c1'.below (hd1 _) c1'.lt)
        obtain ⟨z2, z3⟩ := cel2 (c2'.below (hd1 _) c2'.lt)
        refine bodyPost_ret (v := .tuple #[.agg #[.slice Option.none 0 0, .slice Option.none 0 0], .agg #[.int .i64 st.ln, .int .i64 st.co], .int .i64 st.e]) (by simp (maxDischargeDepth := 10) [results, Tryz.results8, go_sem, z0, z1, z2, z3]) rfl ⟨by rw [HE.out]; rfl, ?_⟩
        exact below_to_drew (hbe w.heap.size w HR.out.low (Nat.le_refl _) (Nat.le_succ _))

end Go.Proofs.YtaaeekahhhookaaGreatDoor
