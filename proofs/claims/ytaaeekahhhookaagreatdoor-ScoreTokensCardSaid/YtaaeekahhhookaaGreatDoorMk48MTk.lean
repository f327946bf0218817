/- schismalaw48.Make. The law's reader of tokens: an event. The law's reader of tokens, as functions of its state, is readL3. -/
import Derived.Test.YtaaeekahhhookaaGreatDoorGXDMTk
import Derived.Test.YtaaeekahhhookaaGreatDoorGXITk
import Derived.Test.YtaaeekahhhookaaGreatDoorGTEMTk
import Derived.Test.YtaaeekahhhookaaGreatDoorRt1MTk
import Derived.Test.YtaaeekahhhookaaGreatDoorOfTMTk
namespace Go.Proofs.YtaaeekahhhookaaGreatDoor
open Go.RowKit Go.Lib

/-- A growing list in a cell of a struct's block: one element more. -/
theorem cell_grow {α : Type} {T S : TypeId} {s base X j : Nat} {Q : World → α → List Value → Prop} {w wB : World} {v v' : Value} {l : List α} {css : List (List Value)} {xs cs : List Value} {o : Obj} {x : α}
  (hQ : ∀ {w1 w2 : World} {y : α} {ys : List Value}, KpT [T, S] w1.heap.size w1 w2 → Q w1 y ys → Q w2 y ys) (h : LO T s (Q w) w base v l css) (hx : Cells w X S xs) (hTS : T ≠ S) (hq : Q w x cs) (hs : cs.length = s) (hg : (w.alloc o).grownBy wB v.ownBlock) (ho : wB.ownsRow base T s v' (l.length + 1) (css.flatten ++ cs)) :
  Cells wB X S xs ∧ LO T s (Q (wB.setCell ⟨X, j, Option.none⟩ v')) (wB.setCell ⟨X, j, Option.none⟩ v') base v' (l ++ [x]) (css ++ [cs]) ∧ Cells (wB.setCell ⟨X, j, Option.none⟩ v') X S (xs.set j v') ∧ ∀ B, B ≤ base → B ≤ X → B ≤ w.heap.size → Below B w (wB.setCell ⟨X, j, Option.none⟩ v') := by
 have hown := h.own
 have hneX := own_off_ty hown hx hTS
 have hxB := (hx.alloc o).grown hg hneX
 have hk1 : KpT [T, S] w.heap.size w wB := ((KpT.refl [T, S] w.heap.size w).alloc (Nat.le_refl _) o).grown (hown.alloc o) (by simp) hg
 have hk3 : KpT [T, S] wB.heap.size wB (wB.setCell ⟨X, j, Option.none⟩ v') := (KpT.refl _ _ _).setCell (TyB.of_cells hxB) (by simp) _
 have hk4 : KpT [S] wB.heap.size wB (wB.setCell ⟨X, j, Option.none⟩ v') := (KpT.refl _ _ _).setCell (TyB.of_cells hxB) (by simp) _
 have hlo2 : LO T s (Q wB) wB base v' (l ++ [x]) (css ++ [cs]) := h.push (Q' := Q wB) (fun _ _ _ hq => hQ hk1 hq) (hQ hk1 hq) hs ho
 exact ⟨hxB, hlo2.kpt hk4 (by simp [hTS]) (fun g hg => (hlo2.lt g hg).2) (fun _ _ _ hq => hQ hk3 hq), hxB.set j v', fun B h1 h2 h3 => (((Below.refl _ _).alloc h3 o).grown hg (by simp; omega) (fun k hk => Nat.le_trans h1 (hown.lt k hk).1)).setCell (p := ⟨X, j, Option.none⟩) h2 _⟩
def VcO (w : World) (base : Nat) (v : Value) (l : List Vc) : Prop := ∃ css, LO 48 2 (VcQ w w.heap.size) w base v l css
theorem VcO.nil (w : World) (base : Nat) : VcO w base (.slice Option.none 0 0) [] := ⟨[], LO.nil _ _⟩
theorem VcO.shape {w : World} {base : Nat} {v : Value} {l : List Vc} (h : VcO w base v l) : ∃ A c, v = .slice A l.length c ∧ l.length ≤ c ∧ c ≤ maxLen ∧ VcsT w w.heap.size A l := by
 obtain ⟨css, h⟩ := h
 exact h.shape
theorem VcO.below {w w' : World} {base : Nat} {v : Value} {l : List Vc} (h : VcO w base v l) (hb : Below w.heap.size w w') : VcO w' base v l := by
 obtain ⟨css, h⟩ := h
 exact ⟨css, h.below hb fun _ _ _ hq => hq.keep (E := []) (KpT.of_below hb) (by simp) (by simp) (by simp) hb.size⟩
theorem EvO.below {w w' : World} {base : Nat} {v : Value} {l : List Ev} (h : EvO w base v l) (hb : Below w.heap.size w w') : EvO w' base v l := h.kpt (E := []) (KpT.of_below hb) (by simp) (by simp) (by simp)
end Go.Proofs.YtaaeekahhhookaaGreatDoor

namespace Go.Proofs.YtaaeekahhhookaaGreatDoor
open Go.RowKit Go.Lib

theorem isB_kind {l : List Tok} {e : Int} {k : Nat} {q : Int} (h : isB l e k q [] = true) : e = 0 ∧ ∃ hk : k < l.length, (l[k]'hk).kind = q ∧ tokAt l k = l[k]'hk := by
 obtain ⟨he, _⟩ := isB_lt h
 obtain ⟨hk, e1, e2⟩ := isB_tok h
 refine ⟨he, hk, ?_, e2⟩
 unfold isB kindAt at h
 rw [e1, Bool.and_eq_true] at h
 simpa using h.2

section
variable (nt : List Int → Tok → List Int × Int) (l : List Tok) (p : List Int)
def notesS : Nat → Rs → List (List Int) → List (List Int) × Rs
 | 0, st, ns => (ns, st)
 | f + 1, st, ns =>
   if isB l st.e st.k 2 [] || isB l st.e st.k 3 [] then
    if (nt p (tokAt l st.k)).2 = 0 then notesS f ⟨st.k + 1, st.ln, st.co, st.e⟩ (ns ++ [(nt p (tokAt l st.k)).1]) else (ns, failS l st (nt p (tokAt l st.k)).2)
   else (ns, st)
theorem notesS_step {f : Nat} {st : Rs} {ns : List (List Int)} : notesS nt l p (f + 1) st ns = if isB l st.e st.k 2 [] || isB l st.e st.k 3 [] then (if (nt p (tokAt l st.k)).2 = 0 then notesS nt l p f ⟨st.k + 1, st.ln, st.co, st.e⟩ (ns ++ [(nt p (tokAt l st.k)).1]) else (ns, failS l st (nt p (tokAt l st.k)).2)) else (ns, st) := rfl
/-- An event. -/
def eventS (st : Rs) : Ev × Rs :=
 (⟨(takeS l 2 [] st).1.num, (takeS l 2 [] st).1.den, (notesS nt l p (l.length + 1) (takeS l 5 [58] (takeS l 2 [] st).2).2 []).1⟩,
   (takeS l 6 [] (notesS nt l p (l.length + 1) (takeS l 5 [58] (takeS l 2 [] st).2).2 []).2).2)
end
/-- The place of the reader. -/
def plr (r : Nat) (w : World) : Nat := match w.cell? ⟨r, 1, Option.none⟩ with
 | some v => (intOf v).toNat
 | none => 0
theorem plr_eq {w : World} {r c : Nat} {A : Option Addr} {l : List Tok} {st : Rs} (h : Cells w r 90 (rdS A l c st)) : plr r w = st.k := by
 unfold plr
 rw [h.cell 1]
 exact Int.toNat_natCast _

set_option maxRecDepth 100000 in
set_option maxHeartbeats 8000000 in
theorem eventL_any (r c : Nat) (A : Option Addr) (l : List Tok) (pv : Value) (p : List Int) (st : Rs) (w0 w : World) (hS : Std w0) (h0 : w0.heap.size ≤ r) (hb0 : Below w0.heap.size w0 w) (hp0 : primeErr p = 0) (hpv : IRow w w.heap.size pv p) (h : Cells w r 90 (rdS A l c st)) (ht : TkT w w.heap.size A l) (hk : st.k ≤ l.length) (hl : l.length ≤ 1000) (hnum : ∀ t ∈ l, t.kind = 2 → NumTok t) :
  Calls Tryz.prog 33 #[.pointer (some ⟨r, 0, Option.none⟩), pv] w fun e w' => (∃ A' c', e = .returned (.agg #[.string ⟨(eventS ntP l p st).1.num.toArray⟩, .string ⟨(eventS ntP l p st).1.den.toArray⟩, .slice A' (eventS ntP l p st).1.notes.length c']) ∧ (eventS ntP l p st).1.notes.length ≤ c' ∧ c' ≤ maxLen ∧ NotesT w' w'.heap.size A' (eventS ntP l p st).1.notes) ∧ Cells w' r 90 (rdS A l c (eventS ntP l p st).2) ∧ RK r w w' := by
 obtain ⟨i0, hi0, hz0, hz1, hz2⟩ := info_parts Tryz.info_row
 obtain ⟨j0, hj0, gz0, gz1, gz2⟩ := info_parts Tryz.info_event48
 obtain ⟨W0, hW0⟩ : ∃ W0, W0 = w.alloc (.cells #[.string ⟨#[]⟩, .string ⟨#[]⟩, .slice Option.none 0 0] 54) := ⟨_, rfl⟩
 have hb1 : Below w.heap.size w W0 := by rw [hW0]; exact (Below.refl _ _).alloc (Nat.le_refl _) _
 have hrl := h.lt
 have HZ : Hid (Cells W0 w.heap.size 54 [.string ⟨#[]⟩, .string ⟨#[]⟩, .slice Option.none 0 0]) := Lib.hid (by rw [hW0]; exact Cells.new w 54 #[.string ⟨#[]⟩, .string ⟨#[]⟩, .slice Option.none 0 0])
 have HK := Lib.hid (RK.of_below hb1 (Nat.le_of_lt hrl))
 have HT0 := Lib.hid ht
 have HPV := Lib.hid hpv
 have HC := Lib.hid (h.below hb1 h.lt)
 have H1 := Lib.hid (fun W (hc : Cells W r 90 (rdS A l c st)) (h : TkT W W.heap.size A l) => takeL_any r c A l st 2 [] W hc h hk (by omega))
 have hk1 := takeS_le l 2 [] st hk
 obtain ⟨⟨t1, st1⟩, hx1⟩ : ∃ x, takeS l 2 [] st = x := ⟨_, rfl⟩
 unfold eventS
 rw [hx1] at H1 hk1 ⊢
 dsimp only at hk1 ⊢
 have H2 := Lib.hid (fun W (hc : Cells W r 90 (rdS A l c st1)) (h : TkT W W.heap.size A l) => takeL_any r c A l st1 5 [58] W hc h hk1 (by omega))
 have hk2 := takeS_le l 5 [58] st1 hk1
 obtain ⟨⟨t2, st2⟩, hx2⟩ : ∃ x, takeS l 5 [58] st1 = x := ⟨_, rfl⟩
 rw [hx2] at H2 hk2 ⊢
 dsimp only at hk2 ⊢
 obtain ⟨⟨nsF, st3⟩, hx3⟩ : ∃ x, notesS ntP l p (l.length + 1) st2 [] = x := ⟨_, rfl⟩
 rw [hx3]
 dsimp only
 have HX : Box (notesS ntP l p (l.length + 1) st2 [] = (nsF, st3)) := ⟨hx3⟩
 clear hx1 hx2 hx3 h ht hpv hb1
 obtain ⟨k0, x0, n0, d0, ro, l0, o0⟩ := t1
 have hfd := tok_field2
 dsimp only
 go_enter Tryz.func33, Tryz.ntmps33
 go_upto_region 1 with (fail)
 rw [← hW0]
 clear hW0
 go_wp2_with fail
 refine (H1.out _ HC.out (HK.out.tk HT0.out)).mono ?_
 rintro e1 w1 ⟨⟨rv1, rfl, _⟩, hc1, hr1⟩
 dsimp only at hc1 ⊢
 replace HZ := Lib.hid (hr1.cells HZ.out (by decide))
 replace HK := Lib.hid (HK.out.trans hr1)
 replace HC := Lib.hid hc1
 clear hc1 hr1 H1
 obtain ⟨W2, hW2⟩ : ∃ W2, W2 = w1.alloc (.cells #[.string ⟨n0.toArray⟩, .string ⟨d0.toArray⟩, .slice Option.none 0 0] 54) := ⟨_, rfl⟩
 have hb2 : Below w1.heap.size w1 W2 := by rw [hW2]; exact (Below.refl _ _).alloc (Nat.le_refl _) _
 have HX2 : Hid (Cells W2 w1.heap.size 54 [.string ⟨n0.toArray⟩, .string ⟨d0.toArray⟩, .slice Option.none 0 0]) := Lib.hid (by rw [hW2]; exact Cells.new w1 54 #[.string ⟨n0.toArray⟩, .string ⟨d0.toArray⟩, .slice Option.none 0 0])
 have hrw : r < w1.heap.size := HC.out.lt
 have hzw : w.heap.size < w1.heap.size := HZ.out.lt
 replace HZ := Lib.hid (HZ.out.below hb2 HZ.out.lt)
 replace HK := Lib.hid (HK.out.trans (RK.of_below hb2 (Nat.le_of_lt hrw)))
 replace HC := Lib.hid (HC.out.below hb2 HC.out.lt)
 go_upto_region 2 with (fail)
 rw [← hW2]
 clear hW2 hb2
 generalize w1.heap.size = XB at *
 go_wp2_with fail
 refine (H2.out _ HC.out (HK.out.tk HT0.out)).mono ?_
 rintro e1 w2 ⟨⟨rv2, rfl, _⟩, hc2, hr2⟩
 dsimp only at hc2 ⊢
 replace HZ := Lib.hid (hr2.cells HZ.out (by decide))
 replace HX2 := Lib.hid (hr2.cells HX2.out (by decide))
 replace HK := Lib.hid (HK.out.trans hr2)
 replace HC := Lib.hid hc2
 clear hc2 hr2 H2
 go_wp2_with fail
 go_loopw [] (fun wr => ∃ (st' : Rs) (ns : List (List Int)) (nv : Value), st'.k ≤ l.length ∧ ns.length ≤ st'.k ∧ RK r w wr ∧ Cells wr r 90 (rdS A l c st') ∧ Cells wr w.heap.size 54 [.string ⟨#[]⟩, .string ⟨#[]⟩, .slice Option.none 0 0] ∧ Cells wr XB 54 [.string ⟨n0.toArray⟩, .string ⟨d0.toArray⟩, nv] ∧ NtO wr (XB + 1) nv ns ∧ Box (notesS ntP l p (l.length + st2.k + 1 - st'.k) st' ns = (nsF, st3))) (fun wr => l.length - plr r wr)
 case atStart => exact ⟨st2, [], _, hk2, by simp, HK.out, HC.out, HZ.out, HX2.out, NtO.nil _ _, ⟨by rw [show l.length + st2.k + 1 - st2.k = l.length + 1 by omega]; exact HX.out⟩⟩
 case round =>
  clear HZ HX2 HK HC HX
  obtain ⟨st', ns, nv, hkj, hnl, hrk, hc, hz, hx, hnt, HRX⟩ := hrel
  have hpc := plr_eq hc
  have HI2 := Lib.hid (isL_any r st'.k c A l st'.ln st'.co st'.e 2 [] wr hc (hrk.tk HT0.out) hkj)
  have HI3 := Lib.hid (fun W (hb : Below wr.heap.size wr W) => isL_any r st'.k c A l st'.ln st'.co st'.e 3 [] W (hc.below hb hc.lt) ((hrk.tk HT0.out).lift hb) hkj)
  have HK := Lib.hid hrk
  have HC := Lib.hid hc
  have HZ := Lib.hid hz
  have HX := Lib.hid hx
  have HN := Lib.hid hnt
  clear hrk hc hz hx hnt
  cases h2 : isB l st'.e st'.k 2 [] with
  | true =>
    rw [h2] at HI2
    obtain ⟨he0, hjk, hq, hta⟩ := isB_kind h2
    have HXE : Box ((nsF, st3) = if (ntP p (l[st'.k]'hjk)).2 = 0 then notesS ntP l p (l.length + st2.k + 1 - (st'.k + 1)) ⟨st'.k + 1, st'.ln, st'.co, st'.e⟩ (ns ++ [(ntP p (l[st'.k]'hjk)).1]) else (ns, failS l st' (ntP p (l[st'.k]'hjk)).2)) := ⟨by rw [← HRX.out, show l.length + st2.k + 1 - st'.k = (l.length + st2.k + 1 - (st'.k + 1)) + 1 by omega, notesS_step, h2, Bool.true_or, if_pos rfl, hta]⟩
    go_wp2_with fail
    refine HI2.out.mono ?_
    rintro e1 V ⟨rfl, hbV⟩
    clear h2 hta HRX HI2 HI3
    have hrr : r < wr.heap.size := HC.out.lt
    replace HC := Lib.hid (HC.out.below hbV HC.out.lt)
    have HTV := Lib.hid ((HK.out.tk HT0.out).lift hbV)
    replace HK := Lib.hid (HK.out.trans (RK.of_below hbV (Nat.le_of_lt hrr)))
    replace HZ := Lib.hid (HZ.out.below hbV HZ.out.lt)
    replace HX := Lib.hid (HX.out.below hbV HX.out.lt)
    replace HN := Lib.hid (HN.out.below hbV)
    obtain ⟨b1, o1, rv, rfl, hbl, _, hrow, p0, p1, p2, p3, p4, p5, p6⟩ := HTV.out.at_ hjk
    obtain ⟨AR, cr, rfl, _⟩ := hrow.shape
    obtain ⟨c0, c1, _⟩ := cel5 HC.out
    have HNU : Box ((l[st'.k]'hjk).kind = 2 → NumTok (l[st'.k]'hjk)) := ⟨hnum _ (List.getElem_mem hjk)⟩
    have HRW := Lib.hid hrow
    have hki : (0 : Int) ≤ (st'.k : Int) := by omega
    have hkl : (st'.k : Int) < (l.length : Int) := by omega
    clear hrow hbV
    generalize l[st'.k]'hjk = t at *
    obtain ⟨q, a1, a2, a3, ar, a5, a6⟩ := t
    dsimp only at *
    subst hq
    go_wp2_with fail
    go_region_held3 (fun w' => w'.cell? ⟨r, 0, Option.none⟩ = some (.slice (some ⟨b1, o1, Option.none⟩) l.length c) ∧ w'.cell? ⟨r, 1, Option.none⟩ = some (.int .i64 st'.k) ∧ w'.cell? ⟨b1, o1 + st'.k * 7, Option.none⟩ = some (.int .i64 2) ∧ w'.cell? ⟨b1, o1 + st'.k * 7 + 1, Option.none⟩ = some (.string ⟨a1.toArray⟩) ∧ w'.cell? ⟨b1, o1 + st'.k * 7 + 2, Option.none⟩ = some (.string ⟨a2.toArray⟩) ∧ w'.cell? ⟨b1, o1 + st'.k * 7 + 3, Option.none⟩ = some (.string ⟨a3.toArray⟩) ∧ w'.cell? ⟨b1, o1 + st'.k * 7 + 4, Option.none⟩ = some (.slice AR ar.length cr) ∧ w'.cell? ⟨b1, o1 + st'.k * 7 + 5, Option.none⟩ = some (.int .i64 a5) ∧ w'.cell? ⟨b1, o1 + st'.k * 7 + 6, Option.none⟩ = some (.int .i64 a6))
     (first | exact ⟨c0, c1, p0, p1, p2, p3, p4, p5, p6⟩ | go_keep)
     ((first | fail))
    obtain ⟨W5, hW5⟩ : ∃ W5, W5 = (V.alloc (.cells #[.int .i64 2, .string ⟨a1.toArray⟩, .string ⟨a2.toArray⟩, .string ⟨a3.toArray⟩, .slice AR ar.length cr, .int .i64 a5, .int .i64 a6] 92)).drew := ⟨_, rfl⟩
    have hb5 : Below V.heap.size V W5 := by rw [hW5]; exact below_to_drew ((Below.refl _ _).alloc (Nat.le_refl _) _)
    have HTB : Hid (Cells W5 V.heap.size 92 [.int .i64 2, .string ⟨a1.toArray⟩, .string ⟨a2.toArray⟩, .string ⟨a3.toArray⟩, .slice AR ar.length cr, .int .i64 a5, .int .i64 a6]) := Lib.hid (by rw [hW5]; exact Cells.new V _ _)
    rw [← hW5]
    have hrv : r < V.heap.size := HC.out.lt
    replace HC := Lib.hid (HC.out.below hb5 HC.out.lt)
    replace HK := Lib.hid (HK.out.trans (RK.of_below hb5 (Nat.le_of_lt hrv)))
    replace HZ := Lib.hid (HZ.out.below hb5 HZ.out.lt)
    replace HX := Lib.hid (HX.out.below hb5 HX.out.lt)
    replace HN := Lib.hid (HN.out.below hb5)
    replace HRW := Lib.hid (HRW.out.lift hb5)
    have HPW := Lib.hid (HPV.out.keep HK.out.kp (by decide) HK.out.kp.size)
    clear hW5 hb5 c0 c1 p0 p1 p2 p3 p4 p5 p6 hbl HTV
    generalize V.heap.size = TB at *
    obtain ⟨t0, t1, t2', t3, t4, _⟩ := cel7 HTB.out
    have HCK := Lib.hid (fun W (hB : Below W5.heap.size W5 W) => check_any pv (.slice AR ar.length cr) p ar W (HPW.out.row.lift hB) (HRW.out.row.lift hB))
    generalize hce : chkAll p [ar] = ce at *
    have hB : Below W5.heap.size W5 W5.drew := below_to_drew (Below.refl _ _)
    go_wp2_with fail
    go_region_held3 (fun w' => w'.cell? ⟨TB, 4, Option.none⟩ = some (.slice AR ar.length cr))
     (first | exact keep_cell t4 hB | go_keep)
     ((first
       | (go_at_call 13; (with_reducible refine (HCK.out _ hB).mono ?_); rintro e wA ⟨rfl, hbk⟩; replace hB := hB.trans (hbk.mono hB.size); clear hbk)))
    have hr5 : r < W5.heap.size := HC.out.lt
    replace HC := Lib.hid (HC.out.below hB HC.out.lt)
    replace HK := Lib.hid (HK.out.trans (RK.of_below hB (Nat.le_of_lt hr5)))
    replace HZ := Lib.hid (HZ.out.below hB HZ.out.lt)
    replace HX := Lib.hid (HX.out.below hB HX.out.lt)
    replace HN := Lib.hid (HN.out.below hB)
    replace HRW := Lib.hid (HRW.out.lift hB)
    replace HPW := Lib.hid (HPW.out.lift hB)
    replace HTB := Lib.hid (HTB.out.below hB HTB.out.lt)
    clear hB HCK t0 t1 t2' t3 t4
    obtain ⟨t0, t1, t2', t3, t4, _⟩ := cel7 HTB.out
    obtain ⟨n, d, en1, ed1, hd0, hg1, hnl1, hdl1⟩ := HNU.out trivial
    subst en1 ed1
    have HOF := Lib.hid (of_readT pv p n d wA (hS.below (hb0.trans (HK.out.low.mono h0)) (Nat.le_refl _)) HPW.out.row hp0 (by have := natAbs_len n; omega) (by have := natAbs_len d; omega) hd0 hg1)
    clear hce hd0 hg1 hnl1 hdl1 HNU
    cases hres : ofRes p n d with
    | err er =>
      have en : ntP p ⟨2, a1, itoa n, itoa d, ar, a5, a6⟩ = ([], er) := by unfold ntP; rw [if_pos rfl]; dsimp only; rw [valZ_itoa, valZ_itoa, hres]
      have hz := ofRes_err hres
      rw [hres] at HOF
      rw [en, if_neg hz] at HXE
      have HOD : Hid (Calls Tryz.prog 87 #[pv, .agg #[.string ⟨(itoa n).toArray⟩, .string ⟨(itoa d).toArray⟩]] wA fun e w' => e = .returned (.tuple #[.slice Option.none 0 0, .int .i64 er]) ∧ Below wA.heap.size wA w') := Lib.hid HOF.out
      clear HOF hres en
      generalize itoa n = nt at *
      generalize itoa d = dt at *
      go_wp2_with fail
      refine HOD.out.mono ?_
      rintro e wB ⟨rfl, hB⟩
      have hr6 : r < wA.heap.size := HC.out.lt
      replace HC := Lib.hid (HC.out.below hB HC.out.lt)
      replace HK := Lib.hid (HK.out.trans (RK.of_below hB (Nat.le_of_lt hr6)))
      replace HZ := Lib.hid (HZ.out.below hB HZ.out.lt)
      replace HX := Lib.hid (HX.out.below hB HX.out.lt)
      replace HN := Lib.hid (HN.out.below hB)
      clear hB HOD
      try dsimp only at HXE
      obtain ⟨eN, e3⟩ := Prod.mk.inj HXE.out
      subst eN e3
      have HF := Lib.hid (failL_any r st'.k c (some ⟨b1, o1, Option.none⟩) l st'.ln st'.co st'.e er _ HC.out (HK.out.tk HT0.out) hkj (by omega))
      go_wp2_with fail
      refine HF.out.mono ?_
      rintro e1 wF ⟨rfl, hcF, hrF⟩
      replace HZ := Lib.hid (hrF.cells HZ.out (by decide))
      replace HX := Lib.hid (hrF.cells HX.out (by decide))
      replace HN := Lib.hid (HN.out.kpt hrF.kp (by decide) (by decide))
      replace HK := Lib.hid (HK.out.trans hrF)
      replace HC : Hid (Cells wF r 90 (rdS (some ⟨b1, o1, Option.none⟩) l c (failS l st' er))) := Lib.hid hcF
      clear hcF hrF HF t0 t1 t2' t3 t4 HTB HPW HRW
      have hk3 : ((failS l st' er)).k ≤ l.length := hkj
      have H6 := Lib.hid (fun W (hc : Cells W r 90 (rdS (some ⟨b1, o1, Option.none⟩) l c (failS l st' er))) (h : TkT W W.heap.size (some ⟨b1, o1, Option.none⟩) l) => takeL_any r c (some ⟨b1, o1, Option.none⟩) l (failS l st' er) 6 [] W hc h hk3 (by omega))
      go_wp2_with fail
      refine (H6.out _ HC.out (HK.out.tk HT0.out)).mono ?_
      rintro e1 w6 ⟨⟨rv6, rfl, _⟩, hc6, hr6⟩
      have HZ6 := Lib.hid (hr6.cells HZ.out (by decide))
      have HX6 := Lib.hid (hr6.cells HX.out (by decide))
      have HN6 := Lib.hid (HN.out.kpt hr6.kp (by decide) (by decide))
      have HK6 := Lib.hid (HK.out.trans hr6)
      have HC6 := Lib.hid hc6
      clear hc6 hr6 HZ HX HN HK HC H6
      obtain ⟨A9, c9, rfl, _⟩ := HN6.out.shape
      obtain ⟨y0, y1, y2⟩ := cel3 HX6.out
      obtain ⟨z0, z1, z2⟩ := cel3 HZ6.out
      have g0 := HZ6.out.free 0
      have g1 := HZ6.out.free 1
      have g2 := HZ6.out.free 2
      obtain ⟨W9, hW9⟩ : ∃ W9, W9 = ((w6.setCell ⟨w.heap.size, 0, Option.none⟩ (.string ⟨n0.toArray⟩)).setCell ⟨w.heap.size, 1, Option.none⟩ (.string ⟨d0.toArray⟩)).setCell ⟨w.heap.size, 2, Option.none⟩ (.slice A9 nsF.length c9) := ⟨_, rfl⟩
      have hz9 : Cells W9 w.heap.size 54 [.string ⟨n0.toArray⟩, .string ⟨d0.toArray⟩, .slice A9 nsF.length c9] := by rw [hW9]; exact ((HZ6.out.set 0 _).set 1 _).set 2 _
      have hk9 : KpT [54] w6.heap.size w6 W9 := by rw [hW9]; exact kpt_step (kpt_step (kpt_step (KpT.refl _ _ _) HZ6.out 0 _) (HZ6.out.set 0 _) 1 _) ((HZ6.out.set 0 _).set 1 _) 2 _
      have hb9 : Below w.heap.size w6 W9 := by rw [hW9]; exact (((Below.refl _ _).setCell (p := ⟨w.heap.size, 0, Option.none⟩) (Nat.le_refl _) _).setCell (p := ⟨w.heap.size, 1, Option.none⟩) (Nat.le_refl _) _).setCell (p := ⟨w.heap.size, 2, Option.none⟩) (Nat.le_refl _) _
      have hN9 := HN6.out.kpt hk9 (by decide) (by decide)
      have hc9 := HC6.out.below hb9 hrl
      have hK9 : RK r w W9 := ⟨HK6.out.low.trans (hb9.mono (Nat.le_of_lt hrl)), HK6.out.kp.trans (KpT.of_below hb9)⟩
      go_wp2_with fail
      rw [← hW9]
      clear hW9 z0 z1 z2 y0 y1 y2 hb9 hk9
      obtain ⟨A8, c8, e8, hl8, hm8, hT8⟩ := hN9.shape
      cases e8
      obtain ⟨z0, z1, z2⟩ := cel3 hz9
      exact bodyPost_ret (v := .agg #[.string ⟨n0.toArray⟩, .string ⟨d0.toArray⟩, .slice A9 nsF.length c9]) (by simp (maxDischargeDepth := 10) [results, Tryz.results33, go_sem, z0, z1, z2]) rfl ⟨⟨A9, c9, rfl, hl8, hm8, hT8⟩, hc9, hK9⟩
    | row x =>
      have en : ntP p ⟨2, a1, itoa n, itoa d, ar, a5, a6⟩ = (x, 0) := by unfold ntP; rw [if_pos rfl]; dsimp only; rw [valZ_itoa, valZ_itoa, hres]
      rw [hres] at HOF
      rw [en, if_pos rfl] at HXE
      have HOD : Hid (Calls Tryz.prog 87 #[pv, .agg #[.string ⟨(itoa n).toArray⟩, .string ⟨(itoa d).toArray⟩]] wA fun e w' => (∃ v, e = .returned (.tuple #[v, .int .i64 0]) ∧ IRow w' w'.heap.size v x) ∧ Below wA.heap.size wA w') := Lib.hid HOF.out
      clear HOF hres en
      generalize itoa n = nt at *
      generalize itoa d = dt at *
      try dsimp only at HXE
      go_wp2_with fail
      refine HOD.out.mono ?_
      rintro e wB ⟨⟨v6, rfl, hrow6⟩, hB⟩
      obtain ⟨AN, cN, rfl, _⟩ := hrow6.shape
      have hr6 : r < wA.heap.size := HC.out.lt
      replace HRW := Lib.hid hrow6
      replace HC := Lib.hid (HC.out.below hB HC.out.lt)
      replace HK := Lib.hid (HK.out.trans (RK.of_below hB (Nat.le_of_lt hr6)))
      replace HZ := Lib.hid (HZ.out.below hB HZ.out.lt)
      replace HX := Lib.hid (HX.out.below hB HX.out.lt)
      replace HN := Lib.hid (HN.out.below hB)
      clear hB HOD hrow6
      have hqn : NoteQ wB wB.heap.size x [.slice AN x.length cN] := ⟨_, rfl, HRW.out⟩
      have HQN := Lib.hid hqn
      obtain ⟨css, hlo⟩ := HN.out
      have hown := hlo.own
      have HLO := Lib.hid hlo
      obtain ⟨y0, y1, y2⟩ := cel3 HX.out
      obtain ⟨y3, y4, y5⟩ := cel3 (HX.out.alloc (.cells #[.slice AN x.length cN] 40))
      have hxw : XB < wB.heap.size := HX.out.lt
      have hw0 : IntKind.i64.wrap ((st'.k : Int) + 1) = (st'.k : Int) + 1 := IntWalk.i64_in _ (by omega)
      clear hqn hlo HRW t1 t2' t3 t4
      go_upto_region 11 with (at_builtin; refine wpList_append_own _ rfl _ _ _ rfl (XB + 1) 40 i0 (.slice Option.none 0 0) 1 24 Tryz.underlying52 hi0 hz0 hz1 hz2 rfl (by decide) _ _ _ rfl (hown.alloc _) ⟨wB.heap.size, 0, Option.none⟩ 1 1 [.slice AN x.length cN] rfl rfl (World.news_of_block (cs := #[.slice AN x.length cN]) (t := 40) (fr := (0, 0)) (heap_alloc_new wB _)) (by simp [Value.oneCell']) (by unfold maxLen; omega) (by omega) (by simp; omega) ?_; intro v9 w9 hown9 hg9 _; obtain ⟨g9, c9, rfl, _, _⟩ := hown9.form (by omega); obtain ⟨hxB, hloB, hxN, hbN⟩ := cell_grow (j := 2) (Q := fun w => NoteQ w w.heap.size) (x := x) (fun hk h => h.keep hk (by decide) hk.size) HLO.out HX.out (by decide) HQN.out rfl hg9 hown9; have fB := hxB.free 2; obtain ⟨_, _, sB⟩ := cel3 hxB)
      have hbX := hbN XB (Nat.le_succ _) (Nat.le_refl _) (Nat.le_of_lt hxw)
      have hcN := HC.out.below hbX hrw
      have HZN := Lib.hid (HZ.out.below hbX hzw)
      have HKN : Hid (RK r w _) := Lib.hid ⟨HK.out.low.trans (hbX.mono (Nat.le_of_lt hrw)), HK.out.kp.trans (KpT.of_below (hbX.mono (Nat.le_of_lt hzw)))⟩
      have HXN := Lib.hid hxN
      have HNN := Lib.hid (show NtO _ (XB + 1) _ (ns ++ [x]) from ⟨_, hloB⟩)
      have HCN := Lib.hid hcN
      clear hbX hxN hloB hbN hxB fB sB hg9 hown9 hown HLO HQN HC HZ HK HX HN y0 y1 y2 y3 y4 y5 HTB HPW
      generalize (w9.setCell ⟨XB, 2, Option.none⟩ (.slice (some ⟨g9, 0, Option.none⟩) (ns.length + 1) c9)) = WN at *
      obtain ⟨c0, c1, _⟩ := cel5 hcN
      have f1 := hcN.free 1
      have hcM : Cells (WN.setCell ⟨r, 1, Option.none⟩ (.int .i64 ((st'.k : Int) + 1))) r 90 (rdS _ l c ⟨st'.k + 1, st'.ln, st'.co, st'.e⟩) := hcN.set 1 _
      have hKM := HKN.out.store hcN (j := 1) (.int .i64 ((st'.k : Int) + 1))
      have hzr : w.heap.size ≠ r := by omega
      have hxr : XB ≠ r := by omega
      have hZM := HZN.out.far (p := ⟨r, 1, Option.none⟩) hzr (.int .i64 ((st'.k : Int) + 1))
      have hXM := HXN.out.far (p := ⟨r, 1, Option.none⟩) hxr (.int .i64 ((st'.k : Int) + 1))
      have hNM := HNN.out.kpt ((KpT.refl [90] WN.heap.size WN).setCell (p := ⟨r, 1, Option.none⟩) (TyB.of_cells hcN) (by simp) (.int .i64 ((st'.k : Int) + 1))) (by decide) (by decide)
      have HCM := Lib.hid hcM
      have HKM := Lib.hid hKM
      have HZM := Lib.hid hZM
      have HXM := Lib.hid hXM
      have HNM := Lib.hid hNM
      clear hcM hKM hZM hXM hNM hcN
      go_wp2_with fail
      go_roundw
      case rel => exact ⟨⟨st'.k + 1, st'.ln, st'.co, st'.e⟩, ns ++ [x], _, by show st'.k + 1 ≤ l.length; omega, by simp; omega, HKM.out, HCM.out, HZM.out, HXM.out, HNM.out, ⟨HXE.out.symm⟩⟩
      case measure => rw [plr_eq HCM.out, hpc]; show l.length - (st'.k + 1) < l.length - st'.k; omega
  | false =>
    cases h3 : isB l st'.e st'.k 3 [] with
    | true =>
      rw [h2] at HI2
      rw [h3] at HI3
      obtain ⟨he0, hjk, hq, hta⟩ := isB_kind h3
      have HXE : Box ((nsF, st3) = if (ntP p (l[st'.k]'hjk)).2 = 0 then notesS ntP l p (l.length + st2.k + 1 - (st'.k + 1)) ⟨st'.k + 1, st'.ln, st'.co, st'.e⟩ (ns ++ [(ntP p (l[st'.k]'hjk)).1]) else (ns, failS l st' (ntP p (l[st'.k]'hjk)).2)) := ⟨by rw [← HRX.out, show l.length + st2.k + 1 - st'.k = (l.length + st2.k + 1 - (st'.k + 1)) + 1 by omega, notesS_step, h2, h3, Bool.false_or, if_pos rfl, hta]⟩
      go_wp2_with fail
      refine HI2.out.mono ?_
      rintro e1 w3 ⟨rfl, hb3⟩
      go_wp2_with fail
      refine (HI3.out _ hb3).mono ?_
      rintro e1 V ⟨rfl, hb4⟩
      have hbV := hb3.trans (hb4.mono hb3.size)
      clear h2 h3 hta HRX HI2 HI3 hb3 hb4
      have hrr : r < wr.heap.size := HC.out.lt
      replace HC := Lib.hid (HC.out.below hbV HC.out.lt)
      have HTV := Lib.hid ((HK.out.tk HT0.out).lift hbV)
      replace HK := Lib.hid (HK.out.trans (RK.of_below hbV (Nat.le_of_lt hrr)))
      replace HZ := Lib.hid (HZ.out.below hbV HZ.out.lt)
      replace HX := Lib.hid (HX.out.below hbV HX.out.lt)
      replace HN := Lib.hid (HN.out.below hbV)
      obtain ⟨b1, o1, rv, rfl, hbl, _, hrow, p0, p1, p2, p3, p4, p5, p6⟩ := HTV.out.at_ hjk
      obtain ⟨AR, cr, rfl, _⟩ := hrow.shape
      obtain ⟨c0, c1, _⟩ := cel5 HC.out
      have HNU : Box ((l[st'.k]'hjk).kind = 2 → NumTok (l[st'.k]'hjk)) := ⟨hnum _ (List.getElem_mem hjk)⟩
      have HRW := Lib.hid hrow
      have hki : (0 : Int) ≤ (st'.k : Int) := by omega
      have hkl : (st'.k : Int) < (l.length : Int) := by omega
      clear hrow hbV
      generalize l[st'.k]'hjk = t at *
      obtain ⟨q, a1, a2, a3, ar, a5, a6⟩ := t
      dsimp only at *
      subst hq
      go_wp2_with fail
      go_region_held3 (fun w' => w'.cell? ⟨r, 0, Option.none⟩ = some (.slice (some ⟨b1, o1, Option.none⟩) l.length c) ∧ w'.cell? ⟨r, 1, Option.none⟩ = some (.int .i64 st'.k) ∧ w'.cell? ⟨b1, o1 + st'.k * 7, Option.none⟩ = some (.int .i64 3) ∧ w'.cell? ⟨b1, o1 + st'.k * 7 + 1, Option.none⟩ = some (.string ⟨a1.toArray⟩) ∧ w'.cell? ⟨b1, o1 + st'.k * 7 + 2, Option.none⟩ = some (.string ⟨a2.toArray⟩) ∧ w'.cell? ⟨b1, o1 + st'.k * 7 + 3, Option.none⟩ = some (.string ⟨a3.toArray⟩) ∧ w'.cell? ⟨b1, o1 + st'.k * 7 + 4, Option.none⟩ = some (.slice AR ar.length cr) ∧ w'.cell? ⟨b1, o1 + st'.k * 7 + 5, Option.none⟩ = some (.int .i64 a5) ∧ w'.cell? ⟨b1, o1 + st'.k * 7 + 6, Option.none⟩ = some (.int .i64 a6))
       (first | exact ⟨c0, c1, p0, p1, p2, p3, p4, p5, p6⟩ | go_keep)
       ((first | fail))
      obtain ⟨W5, hW5⟩ : ∃ W5, W5 = (V.alloc (.cells #[.int .i64 3, .string ⟨a1.toArray⟩, .string ⟨a2.toArray⟩, .string ⟨a3.toArray⟩, .slice AR ar.length cr, .int .i64 a5, .int .i64 a6] 92)).drew := ⟨_, rfl⟩
      have hb5 : Below V.heap.size V W5 := by rw [hW5]; exact below_to_drew ((Below.refl _ _).alloc (Nat.le_refl _) _)
      have HTB : Hid (Cells W5 V.heap.size 92 [.int .i64 3, .string ⟨a1.toArray⟩, .string ⟨a2.toArray⟩, .string ⟨a3.toArray⟩, .slice AR ar.length cr, .int .i64 a5, .int .i64 a6]) := Lib.hid (by rw [hW5]; exact Cells.new V _ _)
      rw [← hW5]
      have hrv : r < V.heap.size := HC.out.lt
      replace HC := Lib.hid (HC.out.below hb5 HC.out.lt)
      replace HK := Lib.hid (HK.out.trans (RK.of_below hb5 (Nat.le_of_lt hrv)))
      replace HZ := Lib.hid (HZ.out.below hb5 HZ.out.lt)
      replace HX := Lib.hid (HX.out.below hb5 HX.out.lt)
      replace HN := Lib.hid (HN.out.below hb5)
      replace HRW := Lib.hid (HRW.out.lift hb5)
      have HPW := Lib.hid (HPV.out.keep HK.out.kp (by decide) HK.out.kp.size)
      clear hW5 hb5 c0 c1 p0 p1 p2 p3 p4 p5 p6 hbl HTV
      generalize V.heap.size = TB at *
      obtain ⟨t0, t1, t2', t3, t4, _⟩ := cel7 HTB.out
      have HCK := Lib.hid (fun W (hB : Below W5.heap.size W5 W) => check_any pv (.slice AR ar.length cr) p ar W (HPW.out.row.lift hB) (HRW.out.row.lift hB))
      generalize hce : chkAll p [ar] = ce at *
      have hB : Below W5.heap.size W5 W5.drew := below_to_drew (Below.refl _ _)
      go_wp2_with fail
      go_region_held3 (fun w' => w'.cell? ⟨TB, 4, Option.none⟩ = some (.slice AR ar.length cr))
       (first | exact keep_cell t4 hB | go_keep)
       ((first
         | (go_at_call 13; (with_reducible refine (HCK.out _ hB).mono ?_); rintro e wA ⟨rfl, hbk⟩; replace hB := hB.trans (hbk.mono hB.size); clear hbk)))
      have hr5 : r < W5.heap.size := HC.out.lt
      replace HC := Lib.hid (HC.out.below hB HC.out.lt)
      replace HK := Lib.hid (HK.out.trans (RK.of_below hB (Nat.le_of_lt hr5)))
      replace HZ := Lib.hid (HZ.out.below hB HZ.out.lt)
      replace HX := Lib.hid (HX.out.below hB HX.out.lt)
      replace HN := Lib.hid (HN.out.below hB)
      replace HRW := Lib.hid (HRW.out.lift hB)
      replace HPW := Lib.hid (HPW.out.lift hB)
      replace HTB := Lib.hid (HTB.out.below hB HTB.out.lt)
      clear hB HCK t0 t1 t2' t3 t4
      obtain ⟨t0, t1, t2', t3, t4, _⟩ := cel7 HTB.out
      have en : ntP p ⟨3, a1, a2, a3, ar, a5, a6⟩ = (ar, ce) := by unfold ntP; rw [if_neg (by show ¬ (3 : Int) = 2; decide), hce]
      rw [en] at HXE
      clear hce en HNU
      try dsimp only at HXE
      by_cases hz : ce = 0
      ·subst hz
       rw [if_pos rfl] at HXE
       have hqn : NoteQ wA wA.heap.size ar [.slice AR ar.length cr] := ⟨_, rfl, HRW.out⟩
       have HQN := Lib.hid hqn
       obtain ⟨css, hlo⟩ := HN.out
       have hown := hlo.own
       have HLO := Lib.hid hlo
       obtain ⟨y0, y1, y2⟩ := cel3 HX.out
       obtain ⟨y3, y4, y5⟩ := cel3 (HX.out.alloc (.cells #[.slice AR ar.length cr] 40))
       have hxw : XB < wA.heap.size := HX.out.lt
       have hw0 : IntKind.i64.wrap ((st'.k : Int) + 1) = (st'.k : Int) + 1 := IntWalk.i64_in _ (by omega)
       clear hqn hlo HRW t1 t2' t3 t4
       go_upto_region 11 with (at_builtin; refine wpList_append_own _ rfl _ _ _ rfl (XB + 1) 40 i0 (.slice Option.none 0 0) 1 24 Tryz.underlying52 hi0 hz0 hz1 hz2 rfl (by decide) _ _ _ rfl (hown.alloc _) ⟨wA.heap.size, 0, Option.none⟩ 1 1 [.slice AR ar.length cr] rfl rfl (World.news_of_block (cs := #[.slice AR ar.length cr]) (t := 40) (fr := (0, 0)) (heap_alloc_new wA _)) (by simp [Value.oneCell']) (by unfold maxLen; omega) (by omega) (by simp; omega) ?_; intro v9 w9 hown9 hg9 _; obtain ⟨g9, c9, rfl, _, _⟩ := hown9.form (by omega); obtain ⟨hxB, hloB, hxN, hbN⟩ := cell_grow (j := 2) (Q := fun w => NoteQ w w.heap.size) (x := ar) (fun hk h => h.keep hk (by decide) hk.size) HLO.out HX.out (by decide) HQN.out rfl hg9 hown9; have fB := hxB.free 2; obtain ⟨_, _, sB⟩ := cel3 hxB)
       have hbX := hbN XB (Nat.le_succ _) (Nat.le_refl _) (Nat.le_of_lt hxw)
       have hcN := HC.out.below hbX hrw
       have HZN := Lib.hid (HZ.out.below hbX hzw)
       have HKN : Hid (RK r w _) := Lib.hid ⟨HK.out.low.trans (hbX.mono (Nat.le_of_lt hrw)), HK.out.kp.trans (KpT.of_below (hbX.mono (Nat.le_of_lt hzw)))⟩
       have HXN := Lib.hid hxN
       have HNN := Lib.hid (show NtO _ (XB + 1) _ (ns ++ [ar]) from ⟨_, hloB⟩)
       have HCN := Lib.hid hcN
       clear hbX hxN hloB hbN hxB fB sB hg9 hown9 hown HLO HQN HC HZ HK HX HN y0 y1 y2 y3 y4 y5 HTB HPW
       generalize (w9.setCell ⟨XB, 2, Option.none⟩ (.slice (some ⟨g9, 0, Option.none⟩) (ns.length + 1) c9)) = WN at *
       obtain ⟨c0, c1, _⟩ := cel5 hcN
       have f1 := hcN.free 1
       have hcM : Cells (WN.setCell ⟨r, 1, Option.none⟩ (.int .i64 ((st'.k : Int) + 1))) r 90 (rdS _ l c ⟨st'.k + 1, st'.ln, st'.co, st'.e⟩) := hcN.set 1 _
       have hKM := HKN.out.store hcN (j := 1) (.int .i64 ((st'.k : Int) + 1))
       have hzr : w.heap.size ≠ r := by omega
       have hxr : XB ≠ r := by omega
       have hZM := HZN.out.far (p := ⟨r, 1, Option.none⟩) hzr (.int .i64 ((st'.k : Int) + 1))
       have hXM := HXN.out.far (p := ⟨r, 1, Option.none⟩) hxr (.int .i64 ((st'.k : Int) + 1))
       have hNM := HNN.out.kpt ((KpT.refl [90] WN.heap.size WN).setCell (p := ⟨r, 1, Option.none⟩) (TyB.of_cells hcN) (by simp) (.int .i64 ((st'.k : Int) + 1))) (by decide) (by decide)
       have HCM := Lib.hid hcM
       have HKM := Lib.hid hKM
       have HZM := Lib.hid hZM
       have HXM := Lib.hid hXM
       have HNM := Lib.hid hNM
       clear hcM hKM hZM hXM hNM hcN
       go_wp2_with fail
       go_roundw
       case rel => exact ⟨⟨st'.k + 1, st'.ln, st'.co, st'.e⟩, ns ++ [ar], _, by show st'.k + 1 ≤ l.length; omega, by simp; omega, HKM.out, HCM.out, HZM.out, HXM.out, HNM.out, ⟨HXE.out.symm⟩⟩
       case measure => rw [plr_eq HCM.out, hpc]; show l.length - (st'.k + 1) < l.length - st'.k; omega
      ·rw [if_neg hz] at HXE
       obtain ⟨eN, e3⟩ := Prod.mk.inj HXE.out
       subst eN e3
       have HF := Lib.hid (failL_any r st'.k c (some ⟨b1, o1, Option.none⟩) l st'.ln st'.co st'.e ce _ HC.out (HK.out.tk HT0.out) hkj (by omega))
       go_wp2_with fail
       refine HF.out.mono ?_
       rintro e1 wF ⟨rfl, hcF, hrF⟩
       replace HZ := Lib.hid (hrF.cells HZ.out (by decide))
       replace HX := Lib.hid (hrF.cells HX.out (by decide))
       replace HN := Lib.hid (HN.out.kpt hrF.kp (by decide) (by decide))
       replace HK := Lib.hid (HK.out.trans hrF)
       replace HC : Hid (Cells wF r 90 (rdS (some ⟨b1, o1, Option.none⟩) l c (failS l st' ce))) := Lib.hid hcF
       clear hcF hrF HF t0 t1 t2' t3 t4 HTB HPW HRW
       have hk3 : ((failS l st' ce)).k ≤ l.length := hkj
       have H6 := Lib.hid (fun W (hc : Cells W r 90 (rdS (some ⟨b1, o1, Option.none⟩) l c (failS l st' ce))) (h : TkT W W.heap.size (some ⟨b1, o1, Option.none⟩) l) => takeL_any r c (some ⟨b1, o1, Option.none⟩) l (failS l st' ce) 6 [] W hc h hk3 (by omega))
       go_wp2_with fail
       refine (H6.out _ HC.out (HK.out.tk HT0.out)).mono ?_
       rintro e1 w6 ⟨⟨rv6, rfl, _⟩, hc6, hr6⟩
       have HZ6 := Lib.hid (hr6.cells HZ.out (by decide))
       have HX6 := Lib.hid (hr6.cells HX.out (by decide))
       have HN6 := Lib.hid (HN.out.kpt hr6.kp (by decide) (by decide))
       have HK6 := Lib.hid (HK.out.trans hr6)
       have HC6 := Lib.hid hc6
       clear hc6 hr6 HZ HX HN HK HC H6
       obtain ⟨A9, c9, rfl, _⟩ := HN6.out.shape
       obtain ⟨y0, y1, y2⟩ := cel3 HX6.out
       obtain ⟨z0, z1, z2⟩ := cel3 HZ6.out
       have g0 := HZ6.out.free 0
       have g1 := HZ6.out.free 1
       have g2 := HZ6.out.free 2
       obtain ⟨W9, hW9⟩ : ∃ W9, W9 = ((w6.setCell ⟨w.heap.size, 0, Option.none⟩ (.string ⟨n0.toArray⟩)).setCell ⟨w.heap.size, 1, Option.none⟩ (.string ⟨d0.toArray⟩)).setCell ⟨w.heap.size, 2, Option.none⟩ (.slice A9 nsF.length c9) := ⟨_, rfl⟩
       have hz9 : Cells W9 w.heap.size 54 [.string ⟨n0.toArray⟩, .string ⟨d0.toArray⟩, .slice A9 nsF.length c9] := by rw [hW9]; exact ((HZ6.out.set 0 _).set 1 _).set 2 _
       have hk9 : KpT [54] w6.heap.size w6 W9 := by rw [hW9]; exact kpt_step (kpt_step (kpt_step (KpT.refl _ _ _) HZ6.out 0 _) (HZ6.out.set 0 _) 1 _) ((HZ6.out.set 0 _).set 1 _) 2 _
       have hb9 : Below w.heap.size w6 W9 := by rw [hW9]; exact (((Below.refl _ _).setCell (p := ⟨w.heap.size, 0, Option.none⟩) (Nat.le_refl _) _).setCell (p := ⟨w.heap.size, 1, Option.none⟩) (Nat.le_refl _) _).setCell (p := ⟨w.heap.size, 2, Option.none⟩) (Nat.le_refl _) _
       have hN9 := HN6.out.kpt hk9 (by decide) (by decide)
       have hc9 := HC6.out.below hb9 hrl
       have hK9 : RK r w W9 := ⟨HK6.out.low.trans (hb9.mono (Nat.le_of_lt hrl)), HK6.out.kp.trans (KpT.of_below hb9)⟩
       go_wp2_with fail
       rw [← hW9]
       clear hW9 z0 z1 z2 y0 y1 y2 hb9 hk9
       obtain ⟨A8, c8, e8, hl8, hm8, hT8⟩ := hN9.shape
       cases e8
       obtain ⟨z0, z1, z2⟩ := cel3 hz9
       exact bodyPost_ret (v := .agg #[.string ⟨n0.toArray⟩, .string ⟨d0.toArray⟩, .slice A9 nsF.length c9]) (by simp (maxDischargeDepth := 10) [results, Tryz.results33, go_sem, z0, z1, z2]) rfl ⟨⟨A9, c9, rfl, hl8, hm8, hT8⟩, hc9, hK9⟩
    | false =>
      rw [h2] at HI2
      rw [h3] at HI3
      have HXE : Box ((nsF, st3) = (ns, st')) := ⟨by rw [← HRX.out, show l.length + st2.k + 1 - st'.k = (l.length + st2.k - st'.k) + 1 by omega, notesS_step, h2, h3]; rfl⟩
      obtain ⟨eN, e3⟩ := Prod.mk.inj HXE.out
      subst eN e3
      go_wp2_with fail
      refine HI2.out.mono ?_
      rintro e1 w3 ⟨rfl, hb3⟩
      go_wp2_with fail
      refine (HI3.out _ hb3).mono ?_
      rintro e1 V ⟨rfl, hb4⟩
      have hB := hb3.trans (hb4.mono hb3.size)
      have hr6 : r < wr.heap.size := HC.out.lt
      replace HC := Lib.hid (HC.out.below hB HC.out.lt)
      replace HK := Lib.hid (HK.out.trans (RK.of_below hB (Nat.le_of_lt hr6)))
      replace HZ := Lib.hid (HZ.out.below hB HZ.out.lt)
      replace HX := Lib.hid (HX.out.below hB HX.out.lt)
      replace HN := Lib.hid (HN.out.below hB)
      clear hB hb3 hb4 h2 h3 HI2 HI3 HRX
      have hk3 : (st3).k ≤ l.length := hkj
      have H6 := Lib.hid (fun W (hc : Cells W r 90 (rdS A l c st3)) (h : TkT W W.heap.size A l) => takeL_any r c A l st3 6 [] W hc h hk3 (by omega))
      go_wp2_with fail
      refine (H6.out _ HC.out (HK.out.tk HT0.out)).mono ?_
      rintro e1 w6 ⟨⟨rv6, rfl, _⟩, hc6, hr6⟩
      have HZ6 := Lib.hid (hr6.cells HZ.out (by decide))
      have HX6 := Lib.hid (hr6.cells HX.out (by decide))
      have HN6 := Lib.hid (HN.out.kpt hr6.kp (by decide) (by decide))
      have HK6 := Lib.hid (HK.out.trans hr6)
      have HC6 := Lib.hid hc6
      clear hc6 hr6 HZ HX HN HK HC H6
      obtain ⟨A9, c9, rfl, _⟩ := HN6.out.shape
      obtain ⟨y0, y1, y2⟩ := cel3 HX6.out
      obtain ⟨z0, z1, z2⟩ := cel3 HZ6.out
      have g0 := HZ6.out.free 0
      have g1 := HZ6.out.free 1
      have g2 := HZ6.out.free 2
      obtain ⟨W9, hW9⟩ : ∃ W9, W9 = ((w6.setCell ⟨w.heap.size, 0, Option.none⟩ (.string ⟨n0.toArray⟩)).setCell ⟨w.heap.size, 1, Option.none⟩ (.string ⟨d0.toArray⟩)).setCell ⟨w.heap.size, 2, Option.none⟩ (.slice A9 nsF.length c9) := ⟨_, rfl⟩
      have hz9 : Cells W9 w.heap.size 54 [.string ⟨n0.toArray⟩, .string ⟨d0.toArray⟩, .slice A9 nsF.length c9] := by rw [hW9]; exact ((HZ6.out.set 0 _).set 1 _).set 2 _
      have hk9 : KpT [54] w6.heap.size w6 W9 := by rw [hW9]; exact kpt_step (kpt_step (kpt_step (KpT.refl _ _ _) HZ6.out 0 _) (HZ6.out.set 0 _) 1 _) ((HZ6.out.set 0 _).set 1 _) 2 _
      have hb9 : Below w.heap.size w6 W9 := by rw [hW9]; exact (((Below.refl _ _).setCell (p := ⟨w.heap.size, 0, Option.none⟩) (Nat.le_refl _) _).setCell (p := ⟨w.heap.size, 1, Option.none⟩) (Nat.le_refl _) _).setCell (p := ⟨w.heap.size, 2, Option.none⟩) (Nat.le_refl _) _
      have hN9 := HN6.out.kpt hk9 (by decide) (by decide)
      have hc9 := HC6.out.below hb9 hrl
      have hK9 : RK r w W9 := ⟨HK6.out.low.trans (hb9.mono (Nat.le_of_lt hrl)), HK6.out.kp.trans (KpT.of_below hb9)⟩
      go_wp2_with fail
      rw [← hW9]
      clear hW9 z0 z1 z2 y0 y1 y2 hb9 hk9
      obtain ⟨A8, c8, e8, hl8, hm8, hT8⟩ := hN9.shape
      cases e8
      obtain ⟨z0, z1, z2⟩ := cel3 hz9
      exact bodyPost_ret (v := .agg #[.string ⟨n0.toArray⟩, .string ⟨d0.toArray⟩, .slice A9 nsF.length c9]) (by simp (maxDischargeDepth := 10) [results, Tryz.results33, go_sem, z0, z1, z2]) rfl ⟨⟨A9, c9, rfl, hl8, hm8, hT8⟩, hc9, hK9⟩

end Go.Proofs.YtaaeekahhhookaaGreatDoor

namespace Go.Proofs.YtaaeekahhhookaaGreatDoor
open Go.RowKit Go.Lib

section
variable (sm : List UInt8 → List UInt8 → Option Int) (pc : List Int → Int) (nt : List Int → Tok → List Int × Int) (l : List Tok)
def primesS : Nat → Rs → List Int → List Int × Rs
 | 0, st, ps => (ps, st)
 | f + 1, st, ps =>
   if isB l st.e st.k 2 [] then
    match sm (tokAt l st.k).num (tokAt l st.k).den with
    | some n => primesS f ⟨st.k + 1, st.ln, st.co, st.e⟩ (ps ++ [n])
    | none => (ps, failS l st 27)
   else (ps, st)
def evsS (p : List Int) : Nat → Rs → List Ev → List Ev × Rs
 | 0, st, es => (es, st)
 | f + 1, st, es => if isB l st.e st.k 2 [] then evsS p f (eventS nt l p st).2 (es ++ [(eventS nt l p st).1]) else (es, st)
/-- The head of a voice: its name, and the state behind it. -/
def headS (st : Rs) : List UInt8 × Rs := ((takeS l 1 [] (takeS l 1 [118, 111, 105, 99, 101] st).2).1.text, (takeS l 6 [] (takeS l 1 [] (takeS l 1 [118, 111, 105, 99, 101] st).2).2).2)
def voicesS (p : List Int) : Nat → Rs → List Vc → List Vc × Rs
 | 0, st, vs => (vs, st)
 | f + 1, st, vs =>
   if st.e = 0 ∧ st.k < l.length then voicesS p f (evsS nt l p (l.length + 1) (headS l st).2 []).2 (vs ++ [⟨(headS l st).1, (evsS nt l p (l.length + 1) (headS l st).2 []).1⟩])
   else (vs, st)
/-- The first line: its first token, the primes, the state behind it. -/
def firstS : Tok × List Int × Rs := ((takeS l 1 [112, 114, 105, 109, 101, 115] ⟨0, 0, 0, 0⟩).1, (primesS sm l (l.length + 1) (takeS l 1 [112, 114, 105, 109, 101, 115] ⟨0, 0, 0, 0⟩).2 []).1, (takeS l 6 [] (primesS sm l (l.length + 1) (takeS l 1 [112, 114, 105, 109, 101, 115] ⟨0, 0, 0, 0⟩).2 []).2).2)
def parseS : Except Flt Sc :=
 if (firstS sm l).2.2.e = 0 ∧ pc (firstS sm l).2.1 ≠ 0 then .error ⟨(firstS sm l).1.line, (firstS sm l).1.col, pc (firstS sm l).2.1⟩
 else if (voicesS nt l (firstS sm l).2.1 (l.length + 1) (firstS sm l).2.2 []).2.e ≠ 0 then
  .error ⟨(voicesS nt l (firstS sm l).2.1 (l.length + 1) (firstS sm l).2.2 []).2.ln, (voicesS nt l (firstS sm l).2.1 (l.length + 1) (firstS sm l).2.2 []).2.co, (voicesS nt l (firstS sm l).2.1 (l.length + 1) (firstS sm l).2.2 []).2.e⟩
 else .ok ⟨(firstS sm l).2.1, (voicesS nt l (firstS sm l).2.1 (l.length + 1) (firstS sm l).2.2 []).1⟩

/-- The state holds a fault. -/
structure Bad (st : Rs) (f : Flt) : Prop where
 ln : st.ln = f.line
 co : st.co = f.col
 e : st.e = f.err
 ne : st.e ≠ 0
variable {sm pc nt l}
theorem Bad.fail (h0 : 0 < l.length) (st : Rs) {er : Int} (he : er ≠ 0) : Bad (failS l st er) (fltAt l st.k er) := by
 have h1 : min st.k (l.length - 1) < l.length := by omega
 have e1 : l[min st.k (l.length - 1)]? = some (l[min st.k (l.length - 1)]'h1) := List.getElem?_eq_getElem h1
 unfold failS plL plC fltAt
 rw [if_neg (by omega), if_neg (by omega), e1]
 exact ⟨rfl, rfl, rfl, he⟩
theorem isB_stuck {k : Nat} {e q : Int} {s : List UInt8} (h : e ≠ 0) : isB l e k q s = false := by
 unfold isB
 rw [show (e == 0) = false by simpa using h]
 rfl
theorem isB_kind0 {k : Nat} {q : Int} : isB l 0 k q [] = kindAt l k q := rfl
theorem isB_text0 {k : Nat} {q : Int} {a : UInt8} {s : List UInt8} : isB l 0 k q (a :: s) = textAt l k q (a :: s) := rfl
theorem takeS_stuck {st : Rs} {q : Int} {s : List UInt8} (h : st.e ≠ 0) : takeS l q s st = (tkNil, st) := by
 unfold takeS
 rw [isB_stuck h, if_neg (by decide), if_neg h]
theorem takeS_yes {k : Nat} {ln co q : Int} {s : List UInt8} (h : isB l 0 k q s = true) : takeS l q s ⟨k, ln, co, 0⟩ = (tokAt l k, ⟨k + 1, ln, co, 0⟩) := by
 unfold takeS
 rw [if_pos h]
theorem takeS_no {k : Nat} {ln co q : Int} {s : List UInt8} (h : isB l 0 k q s = false) : takeS l q s ⟨k, ln, co, 0⟩ = (tkNil, failS l ⟨k, ln, co, 0⟩ 15) := by
 unfold takeS
 rw [if_neg (by show ¬ isB l 0 k q s = true; rw [h]; decide), if_pos rfl]
theorem notesS_stuck {p : List Int} {st : Rs} (h : st.e ≠ 0) : ∀ (f : Nat) (ns : List (List Int)), notesS nt l p f st ns = (ns, st)
 | 0, _ => rfl
 | f + 1, ns => by
   rw [notesS, isB_stuck h, isB_stuck h]
   rfl
theorem primesS_stuck {st : Rs} (h : st.e ≠ 0) : ∀ (f : Nat) (ns : List Int), primesS sm l f st ns = (ns, st)
 | 0, _ => rfl
 | f + 1, ns => by
   rw [primesS, isB_stuck h]
   rfl
theorem evsS_stuck {p : List Int} {st : Rs} (h : st.e ≠ 0) : ∀ (f : Nat) (ns : List Ev), evsS nt l p f st ns = (ns, st)
 | 0, _ => rfl
 | f + 1, ns => by
   rw [evsS, isB_stuck h]
   rfl
theorem voicesS_stuck {p : List Int} {st : Rs} (h : st.e ≠ 0) : ∀ (f : Nat) (ns : List Vc), voicesS nt l p f st ns = (ns, st)
 | 0, _ => rfl
 | f + 1, ns => by
   rw [voicesS, if_neg fun hh => h hh.1]
theorem notesS_run (h0 : 0 < l.length) {p : List Int} {ln co : Int} : ∀ (f k : Nat) (acc : List (List Int)), match ntRun nt l p f k acc with
  | .ok (j, ns) => notesS nt l p f ⟨k, ln, co, 0⟩ acc = (ns, ⟨j, ln, co, 0⟩)
  | .error fl => ∃ ns st, notesS nt l p f ⟨k, ln, co, 0⟩ acc = (ns, st) ∧ Bad st fl
 | 0, k, acc => rfl
 | f + 1, k, acc => by
   have ih := notesS_run h0 (p := p) (ln := ln) (co := co) f (k + 1) (acc ++ [(nt p (tokAt l k)).1])
   rw [ntRun, notesS]
   show match (if kindAt l k 2 || kindAt l k 3 then _ else _ : Except Flt (Nat × List (List Int))) with
    | .ok (j, ns) => (if kindAt l k 2 || kindAt l k 3 then _ else _) = (ns, _)
    | .error fl => ∃ ns st, (if kindAt l k 2 || kindAt l k 3 then _ else _) = (ns, st) ∧ Bad st fl
   by_cases hb : (kindAt l k 2 || kindAt l k 3) = true
   ·rw [if_pos hb, if_pos hb]
    by_cases hz : (nt p (tokAt l k)).2 = 0
    ·rw [if_pos hz]
     show match ntRun nt l p f (k + 1) (acc ++ [(nt p (tokAt l k)).1]) with
      | .ok (j, ns) => (if (nt p (tokAt l k)).2 = 0 then _ else _) = (ns, _)
      | .error fl => ∃ ns st, (if (nt p (tokAt l k)).2 = 0 then _ else _) = (ns, st) ∧ Bad st fl
     rw [if_pos hz]
     exact ih
    ·rw [if_neg hz]
     refine ⟨acc, failS l ⟨k, ln, co, 0⟩ (nt p (tokAt l k)).2, ?_, Bad.fail h0 ⟨k, ln, co, 0⟩ hz⟩
     exact if_neg hz
   ·rw [if_neg hb, if_neg hb]
theorem eventS_run (h0 : 0 < l.length) {p : List Int} {ln co : Int} {k : Nat} (hk : kindAt l k 2 = true) : match evP nt l (textAt l (k + 1) 5 [58]) p k with
  | .ok (j, x) => eventS nt l p ⟨k, ln, co, 0⟩ = (x, ⟨j, ln, co, 0⟩)
  | .error fl => ∃ x st, eventS nt l p ⟨k, ln, co, 0⟩ = (x, st) ∧ Bad st fl := by
 have e1 : takeS l 2 [] ⟨k, ln, co, 0⟩ = (tokAt l k, ⟨k + 1, ln, co, 0⟩) := takeS_yes (by rw [isB_kind0]; exact hk)
 unfold evP eventS
 rw [e1]
 dsimp only
 by_cases hc : textAt l (k + 1) 5 [58] = true
 ·have e2 : takeS l 5 [58] ⟨k + 1, ln, co, 0⟩ = (tokAt l (k + 1), ⟨k + 2, ln, co, 0⟩) := takeS_yes (by rw [isB_text0]; exact hc)
  rw [e2, if_pos hc]
  dsimp only
  have hr := notesS_run (nt := nt) h0 (p := p) (ln := ln) (co := co) (l.length + 1) (k + 2) []
  cases hn : ntRun nt l p (l.length + 1) (k + 2) [] with
  | error fl =>
    rw [hn] at hr
    obtain ⟨ns, st, e3, hb⟩ := hr
    rw [e3]
    exact ⟨_, st, by rw [takeS_stuck hb.ne], hb⟩
  | ok x =>
    obtain ⟨j, ns⟩ := x
    rw [hn] at hr
    dsimp only at hr ⊢
    rw [hr]
    dsimp only
    by_cases h6 : kindAt l j 6 = true
    ·rw [if_pos h6]
     dsimp only
     rw [takeS_yes (show isB l 0 j 6 [] = true by rw [isB_kind0]; exact h6)]
    ·rw [if_neg h6]
     exact ⟨_, failS l ⟨j, ln, co, 0⟩ 15, by rw [takeS_no (show isB l 0 j 6 [] = false by rw [isB_kind0]; simpa using h6)], Bad.fail h0 ⟨j, ln, co, 0⟩ (by decide)⟩
 ·have e2 : takeS l 5 [58] ⟨k + 1, ln, co, 0⟩ = (tkNil, failS l ⟨k + 1, ln, co, 0⟩ 15) := takeS_no (by rw [isB_text0]; simpa using hc)
  have hb : Bad (failS l ⟨k + 1, ln, co, 0⟩ 15) (fltAt l (k + 1) 15) := Bad.fail h0 ⟨k + 1, ln, co, 0⟩ (by decide)
  rw [e2, if_neg hc]
  dsimp only
  rw [notesS_stuck hb.ne]
  exact ⟨_, _, by rw [takeS_stuck hb.ne], hb⟩
theorem evsS_run (h0 : 0 < l.length) {p : List Int} {ln co : Int} {nm : List UInt8} : ∀ (f k : Nat) (es : List Ev), match evsL nt l p f k ⟨nm, es⟩ with
  | .ok (j, v) => evsS nt l p f ⟨k, ln, co, 0⟩ es = (v.evs, ⟨j, ln, co, 0⟩) ∧ v.name = nm
  | .error fl => ∃ ns st, evsS nt l p f ⟨k, ln, co, 0⟩ es = (ns, st) ∧ Bad st fl
 | 0, k, es => ⟨rfl, rfl⟩
 | f + 1, k, es => by
   rw [evsL, evsS]
   dsimp only
   rw [isB_kind0]
   by_cases hk : kindAt l k 2 = true
   ·have hr := eventS_run (nt := nt) h0 (p := p) (ln := ln) (co := co) hk
    rw [if_pos hk, if_pos hk]
    cases hn : evP nt l (textAt l (k + 1) 5 [58]) p k with
    | error fl =>
      rw [hn] at hr
      obtain ⟨x, st, e3, hb⟩ := hr
      rw [e3]
      exact ⟨_, st, evsS_stuck hb.ne _ _, hb⟩
    | ok x =>
      obtain ⟨j, y⟩ := x
      rw [hn] at hr
      dsimp only at hr ⊢
      rw [hr]
      exact evsS_run h0 f j (es ++ [y])
   ·rw [if_neg hk, if_neg hk]
    exact ⟨rfl, rfl⟩
theorem headS_run (h0 : 0 < l.length) {ln co : Int} {k : Nat} : match (if textAt l k 1 [118, 111, 105, 99, 101] then vcP l k else .error (fltAt l k 15) : Except Flt (Nat × Vc)) with
  | .ok (j, v) => headS l ⟨k, ln, co, 0⟩ = (v.name, ⟨j, ln, co, 0⟩) ∧ v.evs = []
  | .error fl => ∃ x st, headS l ⟨k, ln, co, 0⟩ = (x, st) ∧ Bad st fl := by
 unfold headS vcP
 by_cases hv : textAt l k 1 [118, 111, 105, 99, 101] = true
 ·rw [if_pos hv, takeS_yes (show isB l 0 k 1 [118, 111, 105, 99, 101] = true by rw [isB_text0]; exact hv)]
  dsimp only
  by_cases h1 : kindAt l (k + 1) 1 = true
  ·rw [if_pos h1, takeS_yes (show isB l 0 (k + 1) 1 [] = true by rw [isB_kind0]; exact h1)]
   dsimp only
   by_cases h6 : kindAt l (k + 2) 6 = true
   ·rw [if_pos h6, takeS_yes (show isB l 0 (k + 1 + 1) 6 [] = true by rw [isB_kind0]; exact h6)]
    exact ⟨rfl, rfl⟩
   ·rw [if_neg h6, takeS_no (show isB l 0 (k + 1 + 1) 6 [] = false by rw [isB_kind0]; simpa using h6)]
    exact ⟨_, _, rfl, Bad.fail h0 ⟨k + 2, ln, co, 0⟩ (by decide)⟩
  ·have hb : Bad (failS l ⟨k + 1, ln, co, 0⟩ 15) (fltAt l (k + 1) 15) := Bad.fail h0 ⟨k + 1, ln, co, 0⟩ (by decide)
   rw [if_neg h1, takeS_no (show isB l 0 (k + 1) 1 [] = false by rw [isB_kind0]; simpa using h1)]
   dsimp only
   rw [takeS_stuck hb.ne]
   exact ⟨_, _, rfl, hb⟩
 ·have hb : Bad (failS l ⟨k, ln, co, 0⟩ 15) (fltAt l k 15) := Bad.fail h0 ⟨k, ln, co, 0⟩ (by decide)
  rw [if_neg hv, takeS_no (show isB l 0 k 1 [118, 111, 105, 99, 101] = false by rw [isB_text0]; simpa using hv)]
  dsimp only
  rw [takeS_stuck hb.ne]
  dsimp only
  rw [takeS_stuck hb.ne]
  exact ⟨_, _, rfl, hb⟩
theorem voicesS_run (h0 : 0 < l.length) {p : List Int} {ln co : Int} : ∀ (f k : Nat) (vs : List Vc), match voicesL nt l p f k vs with
  | .ok us => ∃ st, voicesS nt l p f ⟨k, ln, co, 0⟩ vs = (us, st) ∧ st.e = 0
  | .error fl => ∃ us st, voicesS nt l p f ⟨k, ln, co, 0⟩ vs = (us, st) ∧ Bad st fl
 | 0, k, vs => ⟨_, rfl, rfl⟩
 | f + 1, k, vs => by
   rw [voicesL, voicesS]
   dsimp only
   by_cases hk : k < l.length
   ·rw [if_pos hk, if_pos (show (0 : Int) = 0 ∧ k < l.length from ⟨rfl, hk⟩)]
    have hh := headS_run h0 (ln := ln) (co := co) (k := k)
    by_cases hv : textAt l k 1 [118, 111, 105, 99, 101] = true
    ·rw [if_pos hv]
     rw [if_pos hv] at hh
     cases hp : vcP l k with
     | error fl =>
       rw [hp] at hh
       obtain ⟨x, st, e3, hb⟩ := hh
       rw [e3]
       dsimp only
       rw [evsS_stuck hb.ne]
       exact ⟨_, st, voicesS_stuck hb.ne _ _, hb⟩
     | ok jv =>
       obtain ⟨j, nm, es⟩ := jv
       rw [hp] at hh
       obtain ⟨e3, hes⟩ := hh
       dsimp only at e3 hes ⊢
       subst hes
       rw [e3]
       dsimp only
       have hr := evsS_run (nt := nt) h0 (p := p) (ln := ln) (co := co) (nm := nm) (l.length + 1) j []
       cases hn : evsL nt l p (l.length + 1) j ⟨nm, []⟩ with
       | error fl =>
         rw [hn] at hr
         obtain ⟨x, st, e4, hb⟩ := hr
         rw [e4]
         exact ⟨_, st, voicesS_stuck hb.ne _ _, hb⟩
       | ok jv2 =>
         obtain ⟨j2, nm2, es2⟩ := jv2
         rw [hn] at hr
         obtain ⟨e4, e5⟩ := hr
         dsimp only at e4 e5 ⊢
         subst e5
         rw [e4]
         exact voicesS_run h0 f j2 (vs ++ [⟨nm2, es2⟩])
    ·rw [if_neg hv]
     rw [if_neg hv] at hh
     obtain ⟨x, st, e3, hb⟩ := hh
     rw [e3]
     dsimp only
     rw [evsS_stuck hb.ne]
     exact ⟨_, st, voicesS_stuck hb.ne _ _, hb⟩
   ·rw [if_neg hk, if_neg (show ¬ ((0 : Int) = 0 ∧ k < l.length) from fun h => hk h.2)]
    exact ⟨_, rfl, rfl⟩
theorem primesS_run (h0 : 0 < l.length) {ln co : Int} : ∀ (f k : Nat) (acc : List Int), match prRun sm l f k acc with
  | .ok (j, ns) => primesS sm l f ⟨k, ln, co, 0⟩ acc = (ns, ⟨j, ln, co, 0⟩)
  | .error fl => ∃ ns st, primesS sm l f ⟨k, ln, co, 0⟩ acc = (ns, st) ∧ Bad st fl
 | 0, k, acc => rfl
 | f + 1, k, acc => by
   rw [prRun, primesS]
   dsimp only
   rw [isB_kind0]
   by_cases hk : kindAt l k 2 = true
   ·rw [if_pos hk, if_pos hk]
    cases hs : sm (tokAt l k).num (tokAt l k).den with
    | none => exact ⟨_, _, rfl, Bad.fail h0 ⟨k, ln, co, 0⟩ (by decide)⟩
    | some n => exact primesS_run h0 f (k + 1) (acc ++ [n])
   ·rw [if_neg hk, if_neg hk]
theorem Bad.flt {st : Rs} {f : Flt} (h : Bad st f) : (⟨st.ln, st.co, st.e⟩ : Flt) = f := by
 obtain ⟨a, b, c⟩ := f
 rw [h.ln, h.co, h.e]
/-- The law's reader answers what readL3 says. -/
theorem parseS_eq : parseS sm pc nt l = readL3 sm pc nt l := by
 have bad : ∀ (a : Tok) (b : List Int) (st : Rs) (fl : Flt), firstS sm l = (a, b, st) → Bad st fl → parseS sm pc nt l = .error fl := fun a b st fl e hb => by
  unfold parseS
  rw [e]
  dsimp only
  rw [if_neg fun h => hb.ne h.1, voicesS_stuck hb.ne]
  dsimp only
  rw [if_pos hb.ne, hb.flt]
 unfold readL3
 by_cases h0 : l.length = 0
 ·rw [if_pos h0]
  obtain rfl : l = [] := List.length_eq_zero_iff.1 h0
  refine bad tkNil [] ⟨0, 1, 1, 15⟩ ⟨1, 1, 15⟩ ?_ ⟨rfl, rfl, rfl, by decide⟩
  unfold firstS
  rw [takeS_no (l := []) (show isB [] 0 0 1 [112, 114, 105, 109, 101, 115] = false from rfl)]
  rfl
 ·have hp : 0 < l.length := by omega
  rw [if_neg h0]
  unfold prP
  by_cases ht : textAt l 0 1 [112, 114, 105, 109, 101, 115] = true
  ·rw [if_pos ht]
   have e1 : takeS l 1 [112, 114, 105, 109, 101, 115] ⟨0, 0, 0, 0⟩ = (tokAt l 0, ⟨1, 0, 0, 0⟩) := takeS_yes (by rw [isB_text0]; exact ht)
   have hr := primesS_run (sm := sm) hp (ln := 0) (co := 0) (l.length + 1) 1 []
   cases hn : prRun sm l (l.length + 1) 1 [] with
   | error fl =>
     rw [hn] at hr
     obtain ⟨ns, st, e3, hb⟩ := hr
     refine bad (tokAt l 0) ns st fl ?_ hb
     unfold firstS
     rw [e1]
     dsimp only
     rw [e3]
     dsimp only
     rw [takeS_stuck hb.ne]
   | ok x =>
     obtain ⟨j, ps⟩ := x
     rw [hn] at hr
     dsimp only at hr ⊢
     by_cases h6 : kindAt l j 6 = true
     ·rw [if_pos h6]
      have e2 : firstS sm l = (tokAt l 0, ps, ⟨j + 1, 0, 0, 0⟩) := by
       unfold firstS
       rw [e1]
       dsimp only
       rw [hr]
       dsimp only
       rw [takeS_yes (show isB l 0 j 6 [] = true by rw [isB_kind0]; exact h6)]
      by_cases hz : pc ps = 0
      ·rw [if_pos hz]
       dsimp only
       have hv := voicesS_run (nt := nt) hp (p := ps) (ln := 0) (co := 0) (l.length + 1) (j + 1) []
       unfold parseS
       rw [e2]
       dsimp only
       rw [if_neg fun h => h.2 hz]
       cases hw : voicesL nt l ps (l.length + 1) (j + 1) [] with
       | error fl =>
         rw [hw] at hv
         obtain ⟨us, st, e3, hb⟩ := hv
         rw [e3]
         dsimp only
         rw [if_pos hb.ne, hb.flt]
       | ok us =>
         rw [hw] at hv
         obtain ⟨st, e3, hb⟩ := hv
         rw [e3]
         dsimp only
         rw [if_neg fun h => h hb]
      ·rw [if_neg hz]
       unfold parseS
       rw [e2]
       dsimp only
       rw [if_pos ⟨rfl, hz⟩]
       have e4 : l[0]? = some (l[0]'hp) := List.getElem?_eq_getElem hp
       have e5 : l[min 0 (l.length - 1)]? = some (l[0]'hp) := by rw [Nat.zero_min]; exact e4
       unfold tokAt fltAt
       rw [e4, e5]
       rfl
     ·rw [if_neg h6]
      refine bad (tokAt l 0) ps (failS l ⟨j, 0, 0, 0⟩ 15) _ ?_ (Bad.fail hp ⟨j, 0, 0, 0⟩ (by decide))
      unfold firstS
      rw [e1]
      dsimp only
      rw [hr]
      dsimp only
      rw [takeS_no (show isB l 0 j 6 [] = false by rw [isB_kind0]; simpa using h6)]
  ·rw [if_neg ht]
   have hb : Bad (failS l ⟨0, 0, 0, 0⟩ 15) (fltAt l 0 15) := Bad.fail hp ⟨0, 0, 0, 0⟩ (by decide)
   refine bad tkNil [] _ _ ?_ hb
   unfold firstS
   rw [takeS_no (show isB l 0 0 1 [112, 114, 105, 109, 101, 115] = false by rw [isB_text0]; simpa using ht)]
   dsimp only
   rw [primesS_stuck hb.ne]
   dsimp only
   rw [takeS_stuck hb.ne]
end

end Go.Proofs.YtaaeekahhhookaaGreatDoor
