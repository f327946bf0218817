import Derived.Test.YtaaeekahhhookaaGreatDoorGXHCk
import Derived.Test.YtaaeekahhhookaaGreatDoorGXQMCk
namespace Go.Proofs.YtaaeekahhhookaaGreatDoor
open Go.RowKit Go.Lib
noncomputable def ntP (p : List Int) (t : Tok) : List Int × Int :=
 if t.kind = 2 then (match ofRes p (valZ t.num) (valZ t.den) with | .err e => ([], e) | .row x => (x, 0)) else (t.row, chkAll p [t.row])
theorem ofRes_err {p : List Int} {n d e : Int} (h : ofRes p n d = .err e) : e ≠ 0 := by
 unfold ofRes at h
 split at h
 ·injection h with h; omega
 ·split at h
  ·cases h
  ·injection h with h; omega
theorem ofRes_row {p : List Int} {n d : Int} {x : List Int} (h : ofRes p n d = .row x) : x.length = p.length := by
 unfold ofRes at h
 split at h
 ·cases h
 ·split at h
  ·injection h with h
   rw [← h, expsTo_len]
  ·cases h
theorem ntRun_step {nt : List Int → Tok → List Int × Int} {l : List Tok} {p : List Int} {f k : Nat} {ns : List (List Int)} : ntRun nt l p (f + 1) k ns = if kindAt l k 2 || kindAt l k 3 then (if (nt p (tokAt l k)).2 = 0 then ntRun nt l p f (k + 1) (ns ++ [(nt p (tokAt l k)).1]) else .error (fltAt l k (nt p (tokAt l k)).2)) else .ok (k, ns) := rfl
def evFin (l : List Tok) (vs : List Vc) (num den : List UInt8) (x : Except Flt (Nat × List (List Int))) : Except Flt (Nat × List Vc) := match x with
 | .error e => .error e
 | .ok (j, ns) => if kindAt l j 6 then .ok (j + 1, addEv vs ⟨num, den, ns⟩) else .error (fltAt l j 15)
theorem lineP_event {nt : List Int → Tok → List Int × Int} {l : List Tok} {p : List Int} {vs : List Vc} {k : Nat} (ht : textAt l k 1 [118, 111, 105, 99, 101] = false) (hv : 0 < vs.length) (h2 : kindAt l k 2 = true) :
  lineP nt l p vs k = if accAt l (k + 1) then evFin l vs (tokAt l k).num (tokAt l k).den (ntRun nt l p (l.length + 1) (k + 2) []) else .error (fltAt l (k + 1) 15) := by
 unfold lineP evP
 rw [ht, if_neg (by decide), if_neg (by omega), h2, if_pos rfl]
 cases accAt l (k + 1) with
 | false => rfl
 | true =>
   rw [if_pos rfl, if_pos rfl]
   unfold evFin
   cases ntRun nt l p (l.length + 1) (k + 2) [] with
   | error e => rfl
   | ok x =>
     obtain ⟨j, ns⟩ := x
     dsimp only
     cases kindAt l j 6 <;> rfl
theorem accAt_yes {l : List Tok} {k : Nat} (h : accAt l k = true) : ∃ hk : k < l.length, ((l[k]'hk).kind = 1 ∨ (l[k]'hk).kind = 5) ∧ (l[k]'hk).text = [58] := by
 unfold accAt at h
 rw [Bool.or_eq_true] at h
 rcases h with h | h
 ·obtain ⟨hk, h1, h2⟩ := textAt_yes h
  exact ⟨hk, .inl h1, h2⟩
 ·obtain ⟨hk, h1, h2⟩ := textAt_yes h
  exact ⟨hk, .inr h1, h2⟩
theorem accAt_no {l : List Tok} {k : Nat} (h : accAt l k = false) (hkl : k ≤ l.length) : k = l.length ∨ ∃ hk : k < l.length, ((l[k]'hk).kind ≠ 1 ∧ (l[k]'hk).kind ≠ 5) ∨ (l[k]'hk).text ≠ [58] := by
 by_cases hk : k < l.length
 ·refine .inr ⟨hk, ?_⟩
  unfold accAt at h
  rw [Bool.or_eq_false_iff] at h
  rcases textAt_no h.1 hk with h1 | ⟨_, h1⟩
  ·rcases textAt_no h.2 hk with h2 | ⟨_, h2⟩
   ·exact .inl ⟨h1, h2⟩
   ·exact .inr h2
  ·exact .inr h1
 ·exact .inl (by omega)
theorem RdS.event {w0 w : World} {g r c k : Nat} {A : Option Addr} {l : List Tok} {pv vv : Value} {p : List Int} {vs : List Vc} (h : RdS w0 w g r A c l k pv vv p vs) (hne : 0 < vs.length) : ∃ (gv cv bL n : Nat) (ev : Value) (css : List (List Value)) (xs : List Value) (evs : List Ev), vs.length = n + 1 ∧ vv = .slice (some ⟨gv, 0, Option.none⟩) (n + 1) cv ∧ Cells w gv 48 xs ∧ xs[n * 2 + 1]? = some ev ∧ LO 54 3 (EvQ w w.heap.size) w bL ev evs css ∧ bL ≤ w.heap.size ∧ (∃ v, v ∈ vs ∧ v.evs = evs) ∧
  ∀ (o : Obj) (wB : World) (v' : Value) (x : Ev) (xc : List Value), (w.alloc o).grownBy wB ev.ownBlock → wB.ownsRow bL 54 3 v' (evs.length + 1) (css.flatten ++ xc) → EvQ w w.heap.size x xc → xc.length = 3 →
    Cells wB gv 48 xs ∧ RdS w0 (wB.setCell ⟨gv, n * 2 + 1, Option.none⟩ v') g r A c l k pv vv p (addEv vs x) := by
 obtain ⟨gv, cv, bL, n, ev, css, xs, evs, h1, h2, h3, h4, h5, h6, h7, hmem, hpush⟩ := h.vso.last hne
 have hgv : w0.heap.size ≤ gv := by
  subst h2
  obtain ⟨xs2, hown2, _⟩ := h.vso.own
  exact (hown2.lt gv rfl).1
 refine ⟨gv, cv, bL, n, ev, css, xs, evs, h1, h2, h3, h4, h5, h6, hmem, fun o wB v' x xc hg ho hx hxc => ?_⟩
 have hown := h5.own
 have hneV := own_off_ty hown h3 (by decide)
 have hneS := own_off_ty hown h.str.strm (by decide)
 have hneR := own_off_ty hown h.cel (by decide)
 have hxB := (h3.alloc o).grown hg hneV
 have hk1 : KpT [54] w.heap.size w wB := (((KpT.refl [54] w.heap.size w).alloc (Nat.le_refl _) o)).grown (hown.alloc o) (by simp) hg
 have hkb : KpT [] bL w wB := KpT.of_below (((Below.refl _ _).alloc h6 o).grown hg (by simp; omega) (fun j hj => (hown.lt j hj).1))
 have hk2 : KpT [54, 48] w.heap.size w (wB.setCell ⟨gv, n * 2 + 1, Option.none⟩ v') := ((((KpT.refl [54, 48] w.heap.size w).alloc (Nat.le_refl _) o)).grown (hown.alloc o) (by simp) hg).setCell (TyB.of_cells hxB) (by simp) _
 have hgr : r ≠ gv := fun e => absurd ((TyB.of_cells h.cel).one (e ▸ TyB.of_cells h3)) (by decide)
 have hgg : g ≠ gv := fun e => absurd ((TyB.of_cells h.str.strm).one (e ▸ TyB.of_cells h3)) (by decide)
 refine ⟨hxB, h.str.kpt hk2 (by decide) (by decide) (((Cells.alloc h.str.strm o).grown hg hneS).far (p := ⟨gv, n * 2 + 1, Option.none⟩) hgg _), ((h.cel.alloc o).grown hg hneR).far (p := ⟨gv, n * 2 + 1, Option.none⟩) hgr _, own_kpt h.prs hk2 (by decide), hpush wB v' x xc hk1 hkb ho (hx.keep hk1 (by decide) (by decide) hk1.size) hxc, ?_, h.g0, h.r0, h.ne⟩
 exact ((h.low.alloc h.low.size o).grown hg (by have := h.low.size; simp; omega) (fun j hj => Nat.le_trans h7 (hown.lt j hj).1)).setCell (p := ⟨gv, n * 2 + 1, Option.none⟩) hgv _
def NtO (w : World) (base : Nat) (v : Value) (l : List (List Int)) : Prop := ∃ css, LO 40 1 (NoteQ w w.heap.size) w base v l css
theorem NtO.nil (w : World) (base : Nat) : NtO w base (.slice Option.none 0 0) [] := ⟨[], LO.nil _ _⟩
theorem NtO.kpt {E : List TypeId} {w w' : World} {base : Nat} {v : Value} {l : List (List Int)} (h : NtO w base v l) (hk : KpT E w.heap.size w w') (h1 : 3 ∉ E) (h2 : 40 ∉ E) : NtO w' base v l := by
 obtain ⟨css, h⟩ := h
 exact ⟨css, h.kpt hk h2 (fun g hg => (h.lt g hg).2) fun _ _ _ hq => hq.keep hk h1 hk.size⟩
theorem NtO.off {w w' : World} {g base : Nat} {v : Value} {l : List (List Int)} {xs : List Value} (h : NtO w base v l) (ho : Off w.heap.size g w w') (hc : Cells w g 196 xs) : NtO w' base v l := h.kpt (KpT.of_off ho hc) (by decide) (by decide)
theorem NtO.below {w w' : World} {base : Nat} {v : Value} {l : List (List Int)} (h : NtO w base v l) (hb : Below w.heap.size w w') : NtO w' base v l := h.kpt (E := []) (KpT.of_below hb) (by simp) (by simp)
theorem NtO.shape {w : World} {base : Nat} {v : Value} {l : List (List Int)} (h : NtO w base v l) : ∃ A c, v = .slice A l.length c ∧ l.length ≤ c ∧ c ≤ maxLen ∧ NotesT w w.heap.size A l := by
 obtain ⟨css, h⟩ := h
 exact h.shape
theorem NtO.grow {w : World} {g c k XB : Nat} {A : Option Addr} {l : List Tok} {nv a b : Value} {ns : List (List Int)} (h : NtO w (XB + 1) nv ns) (hx : Cells w XB 54 [a, b, nv]) (hs : Str w g A c l k) (hgX : g < XB) : ∃ css : List Value, w.ownsRow (XB + 1) 40 1 nv ns.length css ∧
  ∀ (o : Obj) (wB : World) (v' u : Value) (x : List Int), (w.alloc o).grownBy wB nv.ownBlock → wB.ownsRow (XB + 1) 40 1 v' (ns.length + 1) (css ++ [u]) → IRow w w.heap.size u x →
    Cells wB XB 54 [a, b, nv] ∧ NtO (wB.setCell ⟨XB, 2, Option.none⟩ v') (XB + 1) v' (ns ++ [x]) ∧ Cells (wB.setCell ⟨XB, 2, Option.none⟩ v') XB 54 [a, b, v'] ∧ Str (wB.setCell ⟨XB, 2, Option.none⟩ v') g A c l k ∧ Below XB w (wB.setCell ⟨XB, 2, Option.none⟩ v') := by
 obtain ⟨css, hlo⟩ := h
 have hown := hlo.own
 refine ⟨css.flatten, hown, fun o wB v' u x hg ho hu => ?_⟩
 have hneX := own_off_ty hown hx (by decide)
 have hneS := own_off_ty hown hs.strm (by decide)
 have hxB := (hx.alloc o).grown hg hneX
 have hk1 : KpT [40] w.heap.size w wB := (((KpT.refl [40] w.heap.size w).alloc (Nat.le_refl _) o)).grown (hown.alloc o) (by simp) hg
 have hk2 : KpT [40, 54] w.heap.size w (wB.setCell ⟨XB, 2, Option.none⟩ v') := ((((KpT.refl [40, 54] w.heap.size w).alloc (Nat.le_refl _) o)).grown (hown.alloc o) (by simp) hg).setCell (TyB.of_cells hxB) (by simp) _
 have hk3 : KpT [54] wB.heap.size wB (wB.setCell ⟨XB, 2, Option.none⟩ v') := (KpT.refl _ _ _).setCell (TyB.of_cells hxB) (by simp) _
 have hlo2 : NtO wB (XB + 1) v' (ns ++ [x]) := ⟨_, hlo.push (Q' := NoteQ wB wB.heap.size) (fun _ _ _ hq => hq.keep hk1 (by decide) hk1.size) ⟨u, rfl, hu.keep hk1 (by decide) hk1.size⟩ rfl ho⟩
 have hXw := hx.lt
 exact ⟨hxB, hlo2.kpt hk3 (by decide) (by decide), hxB.set 2 _, hs.kpt hk2 (by decide) (by decide) (((Cells.alloc hs.strm o).grown hg hneS).far (p := ⟨XB, 2, Option.none⟩) (by show g ≠ XB; omega) _), (((Below.refl _ _).alloc (Nat.le_of_lt hXw) o).grown hg (by simp; omega) (fun j hj => Nat.le_trans (Nat.le_succ _) (hown.lt j hj).1)).setCell (p := ⟨XB, 2, Option.none⟩) (Nat.le_refl _) _⟩
set_option maxRecDepth 100000 in
set_option maxHeartbeats 8000000 in
theorem rdLine_colon {nt : List Int → Tok → List Int × Int} {w0 w : World} {g r c k : Nat} {A : Option Addr} {l : List Tok} {pv vv : Value} {p : List Int} {vs : List Vc} (h : RdS w0 w g r A c l k pv vv p vs) (hk : k < l.length) (hr : ∀ t ∈ l, t.row.length ≤ 1000) (hln : l.length ≤ 1000) (ht : textAt l k 1 [118, 111, 105, 99, 101] = false) (hv : 0 < vs.length) (h2 : kindAt l k 2 = true) (ha : accAt l (k + 1) = false) :
  Calls Tryz.prog 83 #[.pointer (some ⟨r, 0, Option.none⟩)] w fun e w' => LnPost w0 w' g r A c l pv p (lineP nt l p vs k) e := by
 have HX : Box (lineP nt l p vs k = .error (fltAt l (k + 1) 15)) := ⟨by rw [lineP_event ht hv h2, ha]; rfl⟩
 have HW := Lib.hid (rdWord_no (r := r) (pv := pv) (vv := vv) [118, 111, 105, 99, 101] h.str (Nat.le_of_lt hk) hr ht h.cel h.ne)
 have HNY := Lib.hid (fun W => need_yes r W)
 obtain ⟨_, hq⟩ := kindAt_yes h2
 have HT := Lib.hid (fun W (h : RdS w0 W g r A c l k pv vv p vs) => rdTake_yes (r := r) (pv := pv) (vv := vv) 2 h.str hk hr hln hq h.cel)
 have HA := Lib.hid (fun W (h : Str W g A c l (k + 1)) => accept_no [58] h hr (accAt_no ha (by omega)))
 have HN := Lib.hid (fun W (h : RdS w0 W g r A c l (k + 1) pv vv p vs) => need_no (r := r) (pv := pv) (vv := vv) h.str (by omega) (by omega) hln h.cel)
 have HR := Lib.hid h
 generalize lineP nt l p vs k = out at *
 obtain ⟨A9, c9, rfl, _, hcm, _⟩ := h.vso.shape
 have hvI : 0 < (vs.length : Int) := by omega
 generalize l[k]'hk = t at *
 obtain ⟨k0, x0, n0, d0, ro, l0, o0⟩ := t
 dsimp only at *
 subst hq
 have hfd := tok_field2
 clear h ht hr hln h2 ha
 go_enter Tryz.func83, Tryz.ntmps83
 go_wp2_with fail
 refine HW.out.mono ?_
 rintro e w1 ⟨rfl, hs1, ho1⟩
 have HR1 := Lib.hid (HR.out.off hs1 ho1)
 obtain ⟨q0, q1, q2⟩ := cel3 HR1.out.cel
 clear hs1 ho1 HW HR
 go_wp2_with fail
 refine (HNY.out _).mono ?_
 rintro e w2 ⟨rfl, rfl⟩
 go_wp2_with fail
 refine (HT.out _ HR1.out).mono ?_
 rintro e w3 ⟨⟨AT, cT, rfl, _⟩, hs3, ho3⟩
 dsimp only
 have HR3 := Lib.hid (HR1.out.off hs3 ho3)
 have hba : Below w3.heap.size w3 (w3.alloc (.cells #[.string ⟨n0.toArray⟩, .string ⟨d0.toArray⟩, .slice Option.none 0 0] 54)) := (Below.refl _ _).alloc (Nat.le_refl _) _
 have HR4 := Lib.hid (HR3.out.below hba)
 obtain ⟨p0, p1, p2⟩ := cel3 HR4.out.cel
 clear hs3 ho3 HT HR1 hba q0 q1 q2
 go_wp2_with fail
 refine (HA.out _ HR4.out.str).mono ?_
 rintro e w5 ⟨rfl, hs5, ho5⟩
 have HR5 := Lib.hid (HR4.out.off hs5 ho5)
 clear hs5 ho5 HA
 go_wp2_with fail
 refine (HN.out _ HR5.out).mono ?_
 rintro e w6 ⟨rfl, hs6, hb6⟩
 go_wp2_with fail
 exact ⟨rfl, LnPost.err HX.out (HR5.out.below hb6).low⟩
set_option maxRecDepth 100000 in
set_option maxHeartbeats 16000000 in
theorem rdLine_event {w0 w : World} {g r c k : Nat} {A : Option Addr} {l : List Tok} {pv vv : Value} {p : List Int} {vs : List Vc} (hS : Std w0) (hp0 : primeErr p = 0) (hpl : p.length ≤ 1000) (h : RdS w0 w g r A c l k pv vv p vs) (hk : k < l.length) (hr : ∀ t ∈ l, t.row.length ≤ 1000) (hln : l.length ≤ 1000) (hnum : ∀ t ∈ l, t.kind = 2 → NumTok t) (ht : textAt l k 1 [118, 111, 105, 99, 101] = false) (hv : 0 < vs.length) (hev : ∀ v ∈ vs, v.evs.length ≤ 1000) (h2 : kindAt l k 2 = true) (ha : accAt l (k + 1) = true) :
  Calls Tryz.prog 83 #[.pointer (some ⟨r, 0, Option.none⟩)] w fun e w' => LnPost w0 w' g r A c l pv p (lineP ntP l p vs k) e := by
 obtain ⟨i0, hi0, hz0, hz1, hz2⟩ := info_parts Tryz.info_row
 obtain ⟨j0, hj0, gz0, gz1, gz2⟩ := info_parts Tryz.info_event48
 obtain ⟨_, hq⟩ := kindAt_yes h2
 have hta : tokAt l k = l[k]'hk := by unfold tokAt; rw [List.getElem?_eq_getElem hk]; rfl
 obtain ⟨X, HX⟩ : ∃ X, Box (ntRun ntP l p (l.length + 1) (k + 2) [] = X) := ⟨_, ⟨rfl⟩⟩
 have HOX : Box (lineP ntP l p vs k = evFin l vs (l[k]'hk).num (l[k]'hk).den X) := ⟨by rw [lineP_event ht hv h2, ha, if_pos rfl, HX.out, hta]⟩
 have HW := Lib.hid (rdWord_no (r := r) (pv := pv) (vv := vv) [118, 111, 105, 99, 101] h.str (Nat.le_of_lt hk) hr ht h.cel h.ne)
 have HNY := Lib.hid (fun W => need_yes r W)
 have HT := Lib.hid (fun W (h : RdS w0 W g r A c l k pv vv p vs) => rdTake_yes (r := r) (pv := pv) (vv := vv) 2 h.str hk hr hln hq h.cel)
 have HA := Lib.hid (fun W (h : Str W g A c l (k + 1)) => (accAt_yes ha).elim fun hk1 h1 => accept_ok [58] h hk1 hr hln h1.1 h1.2)
 have hk2 : k + 2 ≤ l.length := (accAt_yes ha).elim fun hk1 _ => hk1
 have HR := Lib.hid h
 have HS := Lib.hid hS
 have HP0 : Box (primeErr p = 0) := ⟨hp0⟩
 have HEV : Box (∀ v ∈ vs, v.evs.length ≤ 1000) := ⟨hev⟩
 have HRR : Box (∀ t ∈ l, t.row.length ≤ 1000) := ⟨hr⟩
 have HNM : Box (∀ t ∈ l, t.kind = 2 → NumTok t) := ⟨hnum⟩
 generalize lineP ntP l p vs k = out at *
 obtain ⟨A9, c9, rfl, _, hcm, _⟩ := h.vso.shape
 have hvI : 0 < (vs.length : Int) := by omega
 clear hta
 generalize l[k]'hk = t at *
 obtain ⟨k0, x0, n0, d0, ro, l0, o0⟩ := t
 dsimp only at *
 subst hq
 have hfd := tok_field2
 clear h ht hr h2 ha hS hp0 hnum hev
 go_enter Tryz.func83, Tryz.ntmps83
 go_wp2_with fail
 refine HW.out.mono ?_
 rintro e w1 ⟨rfl, hs1, ho1⟩
 have HR1 := Lib.hid (HR.out.off hs1 ho1)
 obtain ⟨q0, q1, q2⟩ := cel3 HR1.out.cel
 clear hs1 ho1 HW HR
 go_wp2_with fail
 refine (HNY.out _).mono ?_
 rintro e w2 ⟨rfl, rfl⟩
 go_wp2_with fail
 refine (HT.out _ HR1.out).mono ?_
 rintro e w3 ⟨⟨AT, cT, rfl, _⟩, hs3, ho3⟩
 dsimp only
 have HR3 := Lib.hid (HR1.out.off hs3 ho3)
 obtain ⟨W4, hW4⟩ : ∃ W4, W4 = w3.alloc (.cells #[.string ⟨n0.toArray⟩, .string ⟨d0.toArray⟩, .slice Option.none 0 0] 54) := ⟨_, rfl⟩
 have hba : Below w3.heap.size w3 W4 := by rw [hW4]; exact (Below.refl _ _).alloc (Nat.le_refl _) _
 have HXB := Cells.new w3 54 #[.string ⟨n0.toArray⟩, .string ⟨d0.toArray⟩, .slice Option.none 0 0]
 rw [← hW4] at HXB
 have HXB := Lib.hid HXB
 have HR4 := Lib.hid (HR3.out.below hba)
 obtain ⟨p0, p1, p2⟩ := cel3 HR4.out.cel
 have HB4 := Lib.hid hba
 obtain ⟨XB, hXB⟩ : ∃ XB, XB = w3.heap.size := ⟨_, rfl⟩
 rw [← hXB] at HXB
 clear hs3 ho3 HT HR1 hba q0 q1 q2
 go_upto_region 5 with (fail)
 rw [← hW4, ← hXB]
 have HXBE : Box (XB = w3.heap.size) := ⟨hXB⟩
 clear hW4 hXB
 go_wp2_with fail
 refine (HA.out _ HR4.out.str).mono ?_
 rintro e w5 ⟨rfl, hs5, ho5⟩
 have HO5 : Hid (Off XB g w3 w5) := Lib.hid (by rw [HXBE.out]; exact (Off.of_below HB4.out).trans (ho5.mono HB4.out.size))
 have HXB5 := Lib.hid (ho5.cells HXB.out HXB.out.lt (by have := Cells.lt HR3.out.str.strm; have := HXBE.out; omega))
 have HS5 := Lib.hid hs5
 clear hs5 ho5 HA HR4 HXB HB4 p0 p1 p2
 go_wp2_with fail
 refine (HNY.out _).mono ?_
 rintro e w6 ⟨rfl, rfl⟩
 go_wp2_with fail
 go_loopw [] (fun wr => ∃ (j : Nat) (ns : List (List Int)) (nv : Value), k + 2 ≤ j ∧ j ≤ l.length ∧ ns.length ≤ j ∧ Str wr g A c l j ∧ Off XB g w3 wr ∧ Cells wr XB 54 [.string ⟨n0.toArray⟩, .string ⟨d0.toArray⟩, nv] ∧ NtO wr (XB + 1) nv ns ∧ Box (ntRun ntP l p (l.length + k + 3 - j) j ns = X)) (fun wr => l.length - plc g wr)
 case atStart => exact ⟨k + 2, [], _, Nat.le_refl _, hk2, by simp, HS5.out, HO5.out, HXB5.out, NtO.nil _ _, ⟨by rw [show l.length + k + 3 - (k + 2) = l.length + 1 by omega]; exact HX.out⟩⟩
 case round =>
  clear HS5 HO5 HXB5 HX
  obtain ⟨j, ns, nv, hj2, hjl, hnl, hs, hof, hxb, hnt, HRX⟩ := hrel
  have hpc := plc_eq hs
  have HRJ := Lib.hid (HR3.out.off hs (by rw [← HXBE.out]; exact hof))
  have hi : min j (l.length - 1) < l.length := by omega
  have HF := Lib.hid (fltAt_eq (k := j) hi rfl)
  have HAT := Lib.hid (at_place hs hjl hln hi rfl)
  obtain ⟨q0, q1, q2⟩ := cel3 HRJ.out.cel
  generalize (l[min j (l.length - 1)]'hi).line = ln at *
  generalize (l[min j (l.length - 1)]'hi).col = cl at *
  have HOF := Lib.hid hof
  have HXB1 := Lib.hid hxb
  have HNT := Lib.hid hnt
  have hgX : g < XB := by rw [HXBE.out]; exact Cells.lt HR3.out.str.strm
  clear hs hof hxb hnt
  go_wp2_with fail
  refine HAT.out.mono ?_
  rintro e w7 ⟨rfl, hs7, hb7⟩
  have hw7 := hb7.size
  obtain ⟨W7, hW7⟩ : ∃ W7, W7 = w7.alloc (.cells #[.int .i64 ln, .int .i64 cl] 31) := ⟨_, rfl⟩
  have hb8 : Below w7.heap.size w7 W7 := by rw [hW7]; exact (Below.refl _ _).alloc (Nat.le_refl _) _
  have HPL := Cells.new w7 31 #[.int .i64 ln, .int .i64 cl]
  rw [← hW7] at HPL
  have HPL := Lib.hid HPL
  have hb78 := hb7.trans (hb8.mono hw7)
  have HR7 := Lib.hid (HRJ.out.below hb78)
  have hXr : XB ≤ wr.heap.size := Nat.le_of_lt HXB1.out.lt
  have HOF7 := Lib.hid (HOF.out.trans (Off.of_below (hb78.mono hXr)))
  have HXB7 := Lib.hid (HXB1.out.below hb78 HXB1.out.lt)
  have HNT7 := Lib.hid (HNT.out.below hb78)
  obtain ⟨p0, p1, p2⟩ := cel3 HR7.out.cel
  obtain ⟨PL, hPL⟩ : ∃ PL, PL = w7.heap.size := ⟨_, rfl⟩
  have hPLw : XB < PL := by have := HXB1.out.lt; omega
  rw [← hPL] at HPL
  clear hs7 hb7 hb8 hb78 HAT HRJ HOF HXB1 HNT q0 q1 q2
  go_upto_region 7 with (fail)
  rw [← hW7, ← hPL]
  clear hW7 hPL
  by_cases hbrk : kindAt l j 2 = false ∧ kindAt l j 3 = false
  ·have HXE : Box (X = .ok (j, ns)) := ⟨by
    rw [← HRX.out, show l.length + k + 3 - j = (l.length + k + 2 - j) + 1 by omega, ntRun_step, hbrk.1, hbrk.2]
    rfl⟩
   have HOE : Box (out = if kindAt l j 6 then .ok (j + 1, addEv vs ⟨n0, d0, ns⟩) else .error (fltAt l j 15)) := ⟨by rw [HOX.out, HXE.out]; rfl⟩
   clear HRX HXE HOX
   have HPK : Hid (Calls Tryz.prog 126 #[.pointer (some ⟨g, 0, Option.none⟩)] W7 fun e w' => (∃ (q : Int) (a1 a2 a3 : List UInt8) (A' : Option Addr) (m c' : Nat) (a5 a6 : Int) (b : Bool), e = .returned (.tuple #[.agg #[.int .i64 q, .string ⟨a1.toArray⟩, .string ⟨a2.toArray⟩, .string ⟨a3.toArray⟩, .slice A' m c', .int .i64 a5, .int .i64 a6], .bool b]) ∧ (b = true → (q != 2) = true ∧ (q != 3) = true)) ∧ Str w' g A c l j ∧ Off W7.heap.size g W7 w') := Lib.hid (by
    by_cases hjk : j < l.length
    ·refine (peek_yes HR7.out.str hjk HRR.out).mono ?_
     rintro e w' ⟨⟨A', c', rfl, _⟩, hs, ho⟩
     refine ⟨⟨_, _, _, _, _, _, _, _, _, true, rfl, fun _ => ?_⟩, hs, ho⟩
     obtain ⟨b2, b3⟩ := hbrk
     unfold kindAt at b2 b3
     rw [List.getElem?_eq_getElem hjk] at b2 b3
     simp at b2 b3
     exact ⟨by simpa using b2, by simpa using b3⟩
    ·refine (peek_end HR7.out.str (by omega)).mono ?_
     rintro e w' ⟨rfl, hs, ho⟩
     exact ⟨⟨0, [], [], [], Option.none, 0, 0, 0, 0, false, rfl, fun h => by cases h⟩, hs, ho⟩)
   go_wp2_with fail
   refine HPK.out.mono ?_
   rintro e w8 ⟨⟨q, a1, a2, a3, AQ, m, cq, a5, a6, b, rfl, hqb⟩, hs8, ho8⟩
   have hw8 := ho8.size
   obtain ⟨W8, hW8⟩ : ∃ W8, W8 = w8.alloc (.cells #[.int .i64 q, .string ⟨a1.toArray⟩, .string ⟨a2.toArray⟩, .string ⟨a3.toArray⟩, .slice AQ m cq, .int .i64 a5, .int .i64 a6] 92) := ⟨_, rfl⟩
   have hb9 : Below w8.heap.size w8 W8 := by rw [hW8]; exact (Below.refl _ _).alloc (Nat.le_refl _) _
   have HTB := Cells.new w8 92 #[.int .i64 q, .string ⟨a1.toArray⟩, .string ⟨a2.toArray⟩, .string ⟨a3.toArray⟩, .slice AQ m cq, .int .i64 a5, .int .i64 a6]
   rw [← hW8] at HTB
   obtain ⟨⟨t0, _⟩, _⟩ := cells7 HTB
   have ho9 : Off W7.heap.size g W7 W8 := ho8.trans (Off.of_below (hb9.mono hw8))
   have HR8 := Lib.hid (HR7.out.off (hs8.below hb9) ho9)
   have HXB8 := Lib.hid (ho9.cells HXB7.out HXB7.out.lt (by omega))
   have HNT8 := Lib.hid (HNT7.out.off ho9 HR7.out.str.strm)
   clear hs8 ho8 hb9 HTB HPK HXB7 HNT7 HR7 HPL ho9 p0 p1 p2
   go_upto_region 8 with (fail)
   rw [← hW8]
   clear hW8
   obtain ⟨z0, z1, z2⟩ := cel3 HR8.out.cel
   obtain ⟨gv, cv, bL0, n, ev0, css0, xs0, evs0, hvn, hvv, _⟩ := HR8.out.event hv
   have eA := (Value.slice.inj hvv).1
   subst eA
   have hw1 : IntKind.i64.wrap ((vs.length : Int) - 1) = (n : Int) := by rw [show (vs.length : Int) - 1 = (n : Int) by omega]; exact IntWalk.i64_in _ (by unfold maxLen at hcm; omega)
   have hn0 : (0 : Int) ≤ (n : Int) := by omega
   have hn1 : (n : Int) < (vs.length : Int) := by omega
   have HVN : Box (vs.length = n + 1) := ⟨hvn⟩
   clear hvv hvn
   have hqb2 : b = false ∨ (b = true ∧ (q != 2) = true ∧ (q != 3) = true) := by
    cases b with
    | false => exact .inl rfl
    | true => exact .inr ⟨rfl, hqb rfl⟩
   clear hqb
   rcases hqb2 with rfl | ⟨rfl, hq2, hq3⟩
   case' inl => go_wp2_with fail
   case' inr => go_wp2_with fail
   all_goals
    go_quiet (fail)
    have HRQ := Lib.hid (HR8.out.below (below_drewN (Below.refl _ _) nq))
    have HXQ : Hid (Cells (W8.drewN nq) XB 54 [.string ⟨n0.toArray⟩, .string ⟨d0.toArray⟩, nv]) := Lib.hid (HXB8.out.drewN _)
    have HNQ := Lib.hid (HNT8.out.below (below_drewN (Below.refl _ _) nq))
    obtain ⟨W9, hW9⟩ : ∃ W9, W9 = W8.drewN nq := ⟨_, rfl⟩
    rw [← hW9] at HRQ HXQ HNQ ⊢
    clear hW9 HR8 HXB8 HNT8 t0 z0 z1 z2
    have hd9 : Below W9.heap.size W9 W9.drew := below_to_drew (Below.refl _ _)
    have HRD := Lib.hid (HRQ.out.below hd9)
    have HXD := Lib.hid (HXQ.out.below hd9 HXQ.out.lt)
    obtain ⟨gv', cv', bL, n', ev, css, xs, evs, hvn, hvv, hxs, hxev, hlo, hbL, ⟨v9, hv9, hv9e⟩, hpush⟩ := HRD.out.event hv
    have eG : gv' = gv := by
     have := (Value.slice.inj hvv).1
     injection this with this
     injection this with this
     exact this.symm
    have eN : n' = n := by have := HVN.out; omega
    subst eG eN
    clear hvv hvn
    have hevs : evs.length ≤ 1000 := by rw [← hv9e]; exact HEV.out v9 hv9
    obtain ⟨AN, cN, rfl, hN1, hN2, hN3⟩ := (HNQ.out.below hd9).shape
    have HQE : Hid (EvQ W9.drew W9.drew.heap.size ⟨n0, d0, ns⟩ [.string ⟨n0.toArray⟩, .string ⟨d0.toArray⟩, .slice AN ns.length cN]) := Lib.hid ⟨AN, cN, rfl, hN1, hN2, hN3⟩
    have hown := hlo.own
    have HPU := Lib.hid hpush
    have s0 : W9.cell? ⟨gv', n' * 2 + 1, Option.none⟩ = some ev := (hxs.cell _).trans hxev
    obtain ⟨y0, y1, y2⟩ := cel3 HXQ.out
    have s1 : (W9.alloc (.cells #[.string ⟨n0.toArray⟩, .string ⟨d0.toArray⟩, .slice AN ns.length cN] 54)).cell? ⟨gv', n' * 2 + 1, Option.none⟩ = some ev := ((hxs.alloc _).cell _).trans hxev
    clear hv9e hv9 hN1 hN2 hN3 hlo hpush hnl
    go_wp2_with fail
    go_region_law (first
     | (refine step_append_lies _ (by rfl) _ _ _ (by rfl) bL 54 j0 _ 3 56 Tryz.underlying46 hj0 gz0 gz1 gz2 rfl (by omega) ev evs.length css.flatten (by rfl) (hown.alloc _) ⟨W9.heap.size, 0, Option.none⟩ 1 1 [.string ⟨n0.toArray⟩, .string ⟨d0.toArray⟩, .slice AN ns.length cN] (by rfl) (by rfl) (World.news_of_block (cs := #[.string ⟨n0.toArray⟩, .string ⟨d0.toArray⟩, .slice AN ns.length cN]) (t := 54) (fr := (0, 0)) (heap_alloc_new W9.drew _)) (by simp [Value.oneCell']) (by omega) (by unfold maxLen; omega) (by omega) (by simp at hbL ⊢; omega) (W9.heap.size + 1) (by simp) ?_; intro gB cB wB hownB hgB hatB hltB; obtain ⟨hxB, HRB⟩ := HPU.out _ _ _ ⟨n0, d0, ns⟩ _ hgB hownB HQE.out rfl; have fB := hxB.free (n' * 2 + 1); have sB := (hxB.cell (n' * 2 + 1)).trans hxev)
     | fail)
    all_goals
     have HRC := Lib.hid HRB
     clear HRB hxB fB sB hownB hgB hatB hltB HPU hown s0 s1 y0 y1 y2 HRQ HXQ HNQ HRD HXD hxs hxev HQE hd9
     cases h6 : kindAt l j 6 with
     | false =>
       rw [h6] at HOE
       go_wp2_with fail
       refine (rdTake_no (r := r) 6 HRC.out.str hjl (by omega) HRR.out hln h6 HRC.out.cel HRC.out.ne).mono ?_
       rintro e wD ⟨rfl, hsD, hoD⟩
       go_wp2_with fail
       exact ⟨rfl, LnPost.err HOE.out (HRC.out.off hsD hoD).low⟩
     | true =>
       rw [h6, if_pos rfl] at HOE
       obtain ⟨hk6, hq6⟩ := kindAt_yes h6
       go_wp2_with fail
       refine (rdTake_yes (r := r) 6 HRC.out.str hk6 HRR.out hln hq6 HRC.out.cel).mono ?_
       rintro e wD ⟨⟨AD, cD, rfl, _⟩, hsD, hoD⟩
       go_wp2_with fail
       go_end0
       exact LnPost.ok HOE.out (by omega) (HRC.out.off hsD hoD)
  ·have hjk : j < l.length := by
    refine Nat.lt_of_le_of_ne hjl fun e => hbrk ?_
    unfold kindAt
    rw [List.getElem?_eq_none (by omega)]
    exact ⟨rfl, rfl⟩
   have hq23 : (l[j]'hjk).kind = 2 ∨ (l[j]'hjk).kind = 3 := by
    unfold kindAt at hbrk
    rw [List.getElem?_eq_getElem hjk] at hbrk
    by_cases h2 : (l[j]'hjk).kind = 2
    ·exact .inl h2
    ·refine .inr ?_
     by_cases h3 : (l[j]'hjk).kind = 3
     ·exact h3
     ·exact absurd ⟨by simpa using h2, by simpa using h3⟩ hbrk
   have hkd : (kindAt l j 2 || kindAt l j 3) = true := by
    cases h2 : kindAt l j 2 with
    | true => rfl
    | false =>
      cases h3 : kindAt l j 3 with
      | true => rfl
      | false => exact absurd ⟨h2, h3⟩ hbrk
   have hta : tokAt l j = l[j]'hjk := by unfold tokAt; rw [List.getElem?_eq_getElem hjk]; rfl
   have HXE : Box (X = if (ntP p (l[j]'hjk)).2 = 0 then ntRun ntP l p (l.length + k + 3 - (j + 1)) (j + 1) (ns ++ [(ntP p (l[j]'hjk)).1]) else .error ⟨ln, cl, (ntP p (l[j]'hjk)).2⟩) := ⟨by
    rw [← HRX.out, show l.length + k + 3 - j = (l.length + k + 3 - (j + 1)) + 1 by omega, ntRun_step, hkd, if_pos rfl, hta, HF.out]⟩
   have HRL : Box ((l[j]'hjk).row.length ≤ 1000) := ⟨HRR.out _ (List.getElem_mem hjk)⟩
   have HNU : Box ((l[j]'hjk).kind = 2 → NumTok (l[j]'hjk)) := ⟨HNM.out _ (List.getElem_mem hjk)⟩
   have HPK := Lib.hid (peek_yes HR7.out.str hjk HRR.out)
   have HNX := Lib.hid (fun W (h : Str W g A c l j) => next_yes h hjk HRR.out hln)
   clear HRX hbrk hkd hta
   generalize l[j]'hjk = t at *
   obtain ⟨q, a1, a2, a3, ar, a5, a6⟩ := t
   dsimp only at *
   go_wp2_with fail
   refine HPK.out.mono ?_
   rintro e w8 ⟨⟨AQ, cq, rfl, htr⟩, hs8, ho8⟩
   dsimp only at htr ⊢
   have hw8 := ho8.size
   obtain ⟨W8, hW8⟩ : ∃ W8, W8 = w8.alloc (.cells #[.int .i64 q, .string ⟨a1.toArray⟩, .string ⟨a2.toArray⟩, .string ⟨a3.toArray⟩, .slice AQ ar.length cq, .int .i64 a5, .int .i64 a6] 92) := ⟨_, rfl⟩
   have hb9 : Below w8.heap.size w8 W8 := by rw [hW8]; exact (Below.refl _ _).alloc (Nat.le_refl _) _
   have hTB := Cells.new w8 92 #[.int .i64 q, .string ⟨a1.toArray⟩, .string ⟨a2.toArray⟩, .string ⟨a3.toArray⟩, .slice AQ ar.length cq, .int .i64 a5, .int .i64 a6]
   rw [← hW8] at hTB
   obtain ⟨⟨t0, t1, t2, t3, t4, t5, t6⟩, _⟩ := cells7 hTB
   have HTB := Lib.hid hTB
   have ho9 : Off W7.heap.size g W7 W8 := ho8.trans (Off.of_below (hb9.mono hw8))
   have HR8 := Lib.hid (HR7.out.off (hs8.below hb9) ho9)
   have HXB8 := Lib.hid (ho9.cells HXB7.out HXB7.out.lt (by omega))
   have HPL8 := Lib.hid (ho9.cells HPL.out HPL.out.lt (by omega))
   have HNT8 := Lib.hid (HNT7.out.off ho9 HR7.out.str.strm)
   have HOF8 := Lib.hid (HOF7.out.trans (ho9.mono (Nat.le_of_lt HXB7.out.lt)))
   have HTR8 := Lib.hid (htr.below hb9)
   obtain ⟨TB, hTBe⟩ : ∃ TB, TB = w8.heap.size := ⟨_, rfl⟩
   have hTBg : TB ≠ g := by have := HXB7.out.lt; omega
   rw [← hTBe] at HTB t0 t1 t2 t3 t4 t5 t6
   clear hs8 ho8 hb9 hTB HPK HXB7 HNT7 HR7 HPL ho9 p0 p1 p2 htr HOF7 t5 t6
   go_upto_region 8 with (fail)
   rw [← hW8, ← hTBe]
   clear hW8 hTBe
   obtain ⟨z0, z1, z2⟩ := cel3 HR8.out.cel
   rcases hq23 with rfl | rfl
   case' inl => go_wp2_with fail
   case' inr => go_wp2_with fail
   all_goals
    refine (HNX.out _ HR8.out.str).mono ?_
    rintro e w9 ⟨⟨A7, c7, rfl, _⟩, hs9, ho9⟩
    dsimp only
    have HR9 := Lib.hid (HR8.out.off hs9 ho9)
    have HXB9 := Lib.hid (ho9.cells HXB8.out HXB8.out.lt (by omega))
    have HPL9 := Lib.hid (ho9.cells HPL8.out HPL8.out.lt (by omega))
    have HTB9 := Lib.hid (ho9.cells HTB.out HTB.out.lt hTBg)
    have HNT9 := Lib.hid (HNT8.out.off ho9 HR8.out.str.strm)
    have HOF9 := Lib.hid (HOF8.out.trans (ho9.mono (Nat.le_of_lt HXB8.out.lt)))
    have HTR9 := Lib.hid (HTR8.out.off HR8.out.str.strm (by decide) ho9)
    clear hs9 ho9 HR8 HXB8 HPL8 HTB HNT8 HOF8 HTR8 t0 t1 t2 t3 t4 z0 z1 z2 HNX
    obtain ⟨z0, z1, z2⟩ := cel3 HR9.out.cel
    obtain ⟨⟨t0, t1, t2, t3, t4, t5, t6⟩, _⟩ := cells7 HTB9.out
    have HCK := Lib.hid (fun W (hB : Below w9.heap.size w9 W) => check_any pv (.slice AQ ar.length cq) p ar W ((IsRow.of_own HR9.out.prs).lift hB) (HTR9.out.isRow.lift hB))
    have hB : Below w9.heap.size w9 w9.drew := below_to_drew (Below.refl _ _)
    generalize hce : chkAll p [ar] = ce at *
    clear t5 t6
    go_wp2_with fail
    go_region_held3 (fun w' => w'.cell? ⟨TB, 4, Option.none⟩ = some (.slice AQ ar.length cq) ∧ w'.cell? ⟨r, 1, Option.none⟩ = some pv)
     (first | exact ⟨keep_cell t4 hB, keep_cell z1 hB⟩ | go_keep)
     ((first
       | (go_at_call 13; (with_reducible refine (HCK.out _ hB).mono ?_); rintro e wA ⟨rfl, hbk⟩; replace hB := hB.trans (hbk.mono hB.size); clear hbk)))
   all_goals
    have HRA := Lib.hid (HR9.out.below hB)
    have HXA := Lib.hid (HXB9.out.below hB HXB9.out.lt)
    have HPA := Lib.hid (HPL9.out.below hB HPL9.out.lt)
    have HTA := Lib.hid (HTB9.out.below hB HTB9.out.lt)
    have HNA := Lib.hid (HNT9.out.below hB)
    have HOA := Lib.hid (HOF9.out.trans (Off.of_below (hB.mono (Nat.le_of_lt HXB9.out.lt))))
    have HRW := Lib.hid (HTR9.out.below hB)
    clear hB HR9 HXB9 HPL9 HTB9 HNT9 HOF9 HTR9 t0 t1 t2 t3 t4 z0 z1 z2 HCK
    obtain ⟨z0, z1, z2⟩ := cel3 HRA.out.cel
    obtain ⟨⟨t0, t1, t2, t3, t4, _⟩, _⟩ := cells7 HTA.out
    obtain ⟨m0, m1⟩ := cel2 HPA.out
   ·have en : ntP p ⟨3, a1, a2, a3, ar, a5, a6⟩ = (ar, ce) := by unfold ntP; rw [if_neg (by show ¬ (3 : Int) = 2; decide), hce]
    rw [en] at HXE
    clear hce en
    by_cases hz : ce = 0
    ·subst hz
     rw [if_pos rfl] at HXE
     go_wp2_with fail
     refine (rdCheck_ok ln cl _).mono ?_
     rintro e wB ⟨rfl, hbB⟩
     have HRE := Lib.hid (HRA.out.below hbB)
     have HXF := Lib.hid (HXA.out.below hbB HXA.out.lt)
     have HNE := Lib.hid (HNA.out.below hbB)
     have HOF2 := Lib.hid (HOA.out.trans (Off.of_below (hbB.mono (Nat.le_of_lt HXA.out.lt))))
     have HNV := Lib.hid (HRW.out.isRow.lift hbB)
     have HCL := Lib.hid (fun W (hB : Below wB.heap.size wB W) => clone_any _ _ W (HNV.out.lift hB) HRL.out)
     obtain ⟨y0, y1, y2⟩ := cel3 HXF.out
     have hB : Below wB.heap.size wB wB.drew := below_to_drew (Below.refl _ _)
     have hXw := HXF.out.lt
     clear hbB
     go_wp2_with fail
     go_region_law (first
      | (refine step_append_lies _ (by rfl) _ _ _ (by rfl) (XB + 1) 40 i0 _ 1 24 Tryz.underlying52 hi0 hz0 hz1 hz2 rfl (by omega) nv ns.length css (by rfl) (hown.alloc _) ⟨wC.heap.size, 0, Option.none⟩ 1 1 [.slice AC ar.length cC] (by rfl) (by rfl) (World.news_of_block (cs := #[.slice AC ar.length cC]) (t := 40) (fr := (0, 0)) (heap_alloc_new wC _)) (by simp [Value.oneCell']) (by omega) (by unfold maxLen; omega) (by omega) (by have := hB.size; simp; omega) (wC.heap.size + 1) (by simp) ?_; intro gB cB wD hownB hgB hatB hltB; obtain ⟨hxB, hN2, hX2, hS2, hb2⟩ := hgrow _ _ _ _ ar hgB hownB hIR; have fB := hxB.free 2; obtain ⟨_, _, sB⟩ := cel3 hxB)
      | (go_simp; go_at_call 72; (with_reducible refine (HCL.out _ hB).mono ?_); rintro e wC ⟨⟨AC, cC, rfl, htc⟩, hbk⟩; replace hB := hB.trans (hbk.mono hB.size); clear hbk; have hIR := IRow.of_trow htc; obtain ⟨css, hown, hgrow⟩ := (HNE.out.below hB).grow (HXF.out.below hB HXF.out.lt) (HRE.out.str.below hB) hgX; obtain ⟨u0, u1, u2⟩ := cel3 (HXF.out.below hB HXF.out.lt); obtain ⟨u3, u4, u5⟩ := cel3 ((HXF.out.below hB HXF.out.lt).alloc (.cells #[.slice AC ar.length cC] 40))))
     all_goals
      have HS9 := Lib.hid hS2
      have HN9 := Lib.hid hN2
      have HX9 := Lib.hid hX2
      have HO9 := Lib.hid ((HOF2.out.trans (Off.of_below (hB.mono (Nat.le_of_lt hXw)))).trans (Off.of_below hb2))
      clear hS2 hN2 hX2 hb2 hB hownB hgB hatB hltB hxB fB sB hown hgrow hIR htc u0 u1 u2 u3 u4 u5 y0 y1 y2
      go_wp2_with fail
      go_roundw
      case rel => exact ⟨j + 1, ns ++ [ar], _, by omega, by omega, by simp; omega, HS9.out, HO9.out, HX9.out, HN9.out, ⟨HXE.out.symm⟩⟩
      case measure => rw [plc_eq HS9.out, hpc]; omega
    ·rw [if_neg hz] at HXE
     have HPE : Box (out = .error ⟨ln, cl, ce⟩) := ⟨by rw [HOX.out, HXE.out]; rfl⟩
     go_wp2_with fail
     refine (rdCheck_bad ln cl ce _ hz).mono ?_
     rintro e wB ⟨rfl, hbB⟩
     go_wp2_with fail
     exact ⟨rfl, LnPost.err HPE.out (HRA.out.below hbB).low⟩
   ·obtain ⟨n, d, en1, ed1, hd0, hg1, hnl1, hdl1⟩ := HNU.out (by first | rfl | trivial)
    subst en1 ed1
    have HOC := Lib.hid (fun W (hB : Below wA.heap.size wA W) => of_read pv p n d W ((HRA.out.below hB).std HS.out) ((IsRow.of_own HRA.out.prs).lift hB) HP0.out (by have := natAbs_len n; omega) (by have := natAbs_len d; omega) hd0 hg1)
    cases hres : ofRes p n d with
    | err er =>
      have en : ntP p ⟨2, a1, itoa n, itoa d, ar, a5, a6⟩ = ([], er) := by unfold ntP; rw [if_pos rfl]; dsimp only; rw [valZ_itoa, valZ_itoa, hres]
      have hz := ofRes_err hres
      rw [hres] at HOC
      rw [en, if_neg hz] at HXE
      have HPE : Box (out = .error ⟨ln, cl, er⟩) := ⟨by rw [HOX.out, HXE.out]; rfl⟩
      have HOD : Hid (∀ W, Below wA.heap.size wA W → Calls Tryz.prog 87 #[pv, .agg #[.string ⟨(itoa n).toArray⟩, .string ⟨(itoa d).toArray⟩]] W fun e w' => e = .returned (.tuple #[.slice Option.none 0 0, .int .i64 er]) ∧ Below W.heap.size W w') := Lib.hid (fun W hB => HOC.out W hB)
      clear HOC hres en
      have hB : Below wA.heap.size wA wA.drew := below_to_drew (Below.refl _ _)
      clear t1 t4 hd0 hg1 hnl1 hdl1 HNU
      generalize itoa n = nt at *
      generalize itoa d = dt at *
      go_wp2_with fail
      go_region_held3 (fun w' => w'.cell? ⟨r, 1, Option.none⟩ = some pv ∧ w'.cell? ⟨TB, 2, Option.none⟩ = some (.string ⟨nt.toArray⟩) ∧ w'.cell? ⟨TB, 3, Option.none⟩ = some (.string ⟨dt.toArray⟩))
       (first | exact ⟨keep_cell z1 hB, keep_cell t2 hB, keep_cell t3 hB⟩ | go_keep)
       ((first
         | (go_at_call 87; (with_reducible refine (HOD.out _ hB).mono ?_); rintro e wC ⟨rfl, hbk⟩; replace hB := hB.trans (hbk.mono hB.size); clear hbk)))
      have HPC := Lib.hid (HPA.out.below hB HPA.out.lt)
      have HRC := Lib.hid (HRA.out.below hB)
      obtain ⟨m2, m3⟩ := cel2 HPC.out
      clear hB m0 m1 t2 t3 z0 z1 z2
      go_wp2_with fail
      refine (rdCheck_bad ln cl er _ hz).mono ?_
      rintro e wB ⟨rfl, hbB⟩
      go_wp2_with fail
      exact ⟨rfl, LnPost.err HPE.out (HRC.out.below hbB).low⟩
    | row x =>
      have en : ntP p ⟨2, a1, itoa n, itoa d, ar, a5, a6⟩ = (x, 0) := by unfold ntP; rw [if_pos rfl]; dsimp only; rw [valZ_itoa, valZ_itoa, hres]
      have HXL : Box (x.length ≤ 1000) := ⟨by rw [ofRes_row hres]; exact hpl⟩
      rw [hres] at HOC
      rw [en, if_pos rfl] at HXE
      have HOD : Hid (∀ W, Below wA.heap.size wA W → Calls Tryz.prog 87 #[pv, .agg #[.string ⟨(itoa n).toArray⟩, .string ⟨(itoa d).toArray⟩]] W fun e w' => (∃ A' c', e = .returned (.tuple #[.slice A' x.length c', .int .i64 0]) ∧ IsRow w' w'.heap.size (.slice A' x.length c') x) ∧ Below W.heap.size W w') := Lib.hid (fun W hB => HOC.out W hB)
      clear HOC hres en
      have hB : Below wA.heap.size wA wA.drew := below_to_drew (Below.refl _ _)
      clear t1 t4 hd0 hg1 hnl1 hdl1 HNU
      generalize itoa n = nt at *
      generalize itoa d = dt at *
      go_wp2_with fail
      go_region_held3 (fun w' => w'.cell? ⟨r, 1, Option.none⟩ = some pv ∧ w'.cell? ⟨TB, 2, Option.none⟩ = some (.string ⟨nt.toArray⟩) ∧ w'.cell? ⟨TB, 3, Option.none⟩ = some (.string ⟨dt.toArray⟩))
       (first | exact ⟨keep_cell z1 hB, keep_cell t2 hB, keep_cell t3 hB⟩ | go_keep)
       ((first
         | (go_at_call 87; (with_reducible refine (HOD.out _ hB).mono ?_); rintro e wC ⟨⟨AX, cX, rfl, hxr⟩, hbk⟩; replace hB := hB.trans (hbk.mono hB.size); clear hbk)))
      have HPC := Lib.hid (HPA.out.below hB HPA.out.lt)
      have HRC := Lib.hid (HRA.out.below hB)
      have HXC := Lib.hid (HXA.out.below hB HXA.out.lt)
      have HNC := Lib.hid (HNA.out.below hB)
      have HOE := Lib.hid (HOA.out.trans (Off.of_below (hB.mono (Nat.le_of_lt HXA.out.lt))))
      have HNW := Lib.hid hxr
      obtain ⟨m2, m3⟩ := cel2 HPC.out
      clear hB m0 m1 t0 t2 t3 z0 z1 z2 hxr
      go_wp2_with fail
      refine (rdCheck_ok ln cl _).mono ?_
      rintro e wB ⟨rfl, hbB⟩
      have HRE := Lib.hid (HRC.out.below hbB)
      have HXF := Lib.hid (HXC.out.below hbB HXC.out.lt)
      have HNE := Lib.hid (HNC.out.below hbB)
      have HOF2 := Lib.hid (HOE.out.trans (Off.of_below (hbB.mono (Nat.le_of_lt HXC.out.lt))))
      have HNV := Lib.hid (HNW.out.lift hbB)
      have HCL := Lib.hid (fun W (hB : Below wB.heap.size wB W) => clone_any _ _ W (HNV.out.lift hB) HXL.out)
      obtain ⟨y0, y1, y2⟩ := cel3 HXF.out
      have hB : Below wB.heap.size wB wB.drew := below_to_drew (Below.refl _ _)
      have hXw := HXF.out.lt
      clear hbB
      go_wp2_with fail
      go_region_law (first
       | (refine step_append_lies _ (by rfl) _ _ _ (by rfl) (XB + 1) 40 i0 _ 1 24 Tryz.underlying52 hi0 hz0 hz1 hz2 rfl (by omega) nv ns.length css (by rfl) (hown.alloc _) ⟨wC.heap.size, 0, Option.none⟩ 1 1 [.slice AC x.length cC] (by rfl) (by rfl) (World.news_of_block (cs := #[.slice AC x.length cC]) (t := 40) (fr := (0, 0)) (heap_alloc_new wC _)) (by simp [Value.oneCell']) (by omega) (by unfold maxLen; omega) (by omega) (by have := hB.size; simp; omega) (wC.heap.size + 1) (by simp) ?_; intro gB cB wD hownB hgB hatB hltB; obtain ⟨hxB, hN2, hX2, hS2, hb2⟩ := hgrow _ _ _ _ x hgB hownB hIR; have fB := hxB.free 2; obtain ⟨_, _, sB⟩ := cel3 hxB)
       | (go_simp; go_at_call 72; (with_reducible refine (HCL.out _ hB).mono ?_); rintro e wC ⟨⟨AC, cC, rfl, htc⟩, hbk⟩; replace hB := hB.trans (hbk.mono hB.size); clear hbk; have hIR := IRow.of_trow htc; obtain ⟨css, hown, hgrow⟩ := (HNE.out.below hB).grow (HXF.out.below hB HXF.out.lt) (HRE.out.str.below hB) hgX; obtain ⟨u0, u1, u2⟩ := cel3 (HXF.out.below hB HXF.out.lt); obtain ⟨u3, u4, u5⟩ := cel3 ((HXF.out.below hB HXF.out.lt).alloc (.cells #[.slice AC x.length cC] 40))))
      all_goals
       have HS9 := Lib.hid hS2
       have HN9 := Lib.hid hN2
       have HX9 := Lib.hid hX2
       have HO9 := Lib.hid ((HOF2.out.trans (Off.of_below (hB.mono (Nat.le_of_lt hXw)))).trans (Off.of_below hb2))
       clear hS2 hN2 hX2 hb2 hB hownB hgB hatB hltB hxB fB sB hown hgrow hIR htc u0 u1 u2 u3 u4 u5 y0 y1 y2
       go_wp2_with fail
       go_roundw
       case rel => exact ⟨j + 1, ns ++ [x], _, by omega, by omega, by simp; omega, HS9.out, HO9.out, HX9.out, HN9.out, ⟨HXE.out.symm⟩⟩
       case measure => rw [plc_eq HS9.out, hpc]; omega
end Go.Proofs.YtaaeekahhhookaaGreatDoor
