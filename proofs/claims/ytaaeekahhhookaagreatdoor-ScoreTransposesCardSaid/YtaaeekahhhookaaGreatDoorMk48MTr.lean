/- schismalaw48.Make. schismalaw48.Make: the blocks of the notes lie apart (printed by gen_mks.py). Voices whose notes are changed in place. -/
import Derived.Test.YtaaeekahhhookaaGreatDoorGXDMTr
import Derived.Test.YtaaeekahhhookaaGreatDoorGXITr
import Derived.Test.YtaaeekahhhookaaGreatDoorGTEMTr
namespace Go.Proofs.YtaaeekahhhookaaGreatDoor
open Go.RowKit Go.Lib

/-- A growing list in a cell of a struct's block: one element more. -/
theorem cell_grow {α : Type} {T S : TypeId} {s base X j : Nat} {Q : World → α → List Value → Prop} {w wB : World} {v v' : Value} {l : List α} {css : List (List Value)} {xs cs : List Value} {o : Obj} {x : α}
  (hQ : ∀ {w1 w2 : World} {y : α} {ys : List Value}, KpT [T, S] w1.heap.size w1 w2 → Q w1 y ys → Q w2 y ys) (h : LO T s (Q w) w base v l css) (hx : Cells w X S xs) (hTS : T ≠ S) (hq : Q w x cs) (hs : cs.length = s) (hg : (w.alloc o).grownBy wB v.ownBlock) (ho : wB.ownsRow base T s v' (l.length + 1) (css.flatten ++ cs)) :
  Cells wB X S xs ∧ LO T s (Q (wB.setCell ⟨X, j, Option.none⟩ v')) (wB.setCell ⟨X, j, Option.none⟩ v') base v' (l ++ [x]) (css ++ [cs]) ∧ Cells (wB.setCell ⟨X, j, Option.none⟩ v') X S (xs.set j v') ∧ ∀ B, B ≤ base → B ≤ X → B ≤ w.heap.size → Below B w (wB.setCell ⟨X, j, Option.none⟩ v') := by
 have hown := h.own
 have hneX := own_off_ty hown hx hTS
 have hxB := (hx.alloc o).grown hg hneX
 have hk1 : KpT [T, S] w.heap.size w wB := ((KpT.refl [T, S] w.heap.size w).alloc (Nat.le_refl _) o).grown (hown.alloc o) (by simp) hg
 have hk3 : KpT [T, S] wB.heap.size wB (wB.setCell ⟨X, j, Option.none⟩ v') := (KpT.refl _ _ _).setCell (TyB.of_cells hxB) (by simp) _
 have hk4 : KpT [S] wB.heap.size wB (wB.setCell ⟨X, j, Option.none⟩ v') := (KpT.refl _ _ _).setCell (TyB.of_cells hxB) (by simp) _
 have hlo2 : LO T s (Q wB) wB base v' (l ++ [x]) (css ++ [cs]) := h.push (Q' := Q wB) (fun _ _ _ hq => hQ hk1 hq) (hQ hk1 hq) hs ho
 exact ⟨hxB, hlo2.kpt hk4 (by simp [hTS]) (fun g hg => (hlo2.lt g hg).2) (fun _ _ _ hq => hQ hk3 hq), hxB.set j v', fun B h1 h2 h3 => (((Below.refl _ _).alloc h3 o).grown hg (by simp; omega) (fun k hk => Nat.le_trans h1 (hown.lt k hk).1)).setCell (p := ⟨X, j, Option.none⟩) h2 _⟩
def VcO (w : World) (base : Nat) (v : Value) (l : List Vc) : Prop := ∃ css, LO 48 2 (VcQ w w.heap.size) w base v l css
theorem VcO.nil (w : World) (base : Nat) : VcO w base (.slice Option.none 0 0) [] := ⟨[], LO.nil _ _⟩
theorem VcO.shape {w : World} {base : Nat} {v : Value} {l : List Vc} (h : VcO w base v l) : ∃ A c, v = .slice A l.length c ∧ l.length ≤ c ∧ c ≤ maxLen ∧ VcsT w w.heap.size A l := by
 obtain ⟨css, h⟩ := h
 exact h.shape
theorem VcO.below {w w' : World} {base : Nat} {v : Value} {l : List Vc} (h : VcO w base v l) (hb : Below w.heap.size w w') : VcO w' base v l := by
 obtain ⟨css, h⟩ := h
 exact ⟨css, h.below hb fun _ _ _ hq => hq.keep (E := []) (KpT.of_below hb) (by simp) (by simp) (by simp) hb.size⟩
theorem EvO.below {w w' : World} {base : Nat} {v : Value} {l : List Ev} (h : EvO w base v l) (hb : Below w.heap.size w w') : EvO w' base v l := h.kpt (E := []) (KpT.of_below hb) (by simp) (by simp) (by simp)
theorem trow_cells {w : World} {g n : Nat} {x : List Int} (h : Cells w g 3 (is x)) (hn : x.length = n) (hl : x.length ≤ 1000000) : TRow w (.slice (some ⟨g, 0, Option.none⟩) n n) x := by
 subst hn
 refine ⟨_, _, rfl, Nat.le_refl _, by unfold maxLen; omega, fun _ => ?_⟩
 obtain ⟨cur, p, ht⟩ := TyB.of_cells h
 refine ⟨g, 0, cur, p, rfl, ht, fun k hk => ?_⟩
 rw [Nat.zero_add, h.cell k]
 unfold is
 rw [List.getElem?_map, List.getElem?_eq_getElem hk]
 rfl
set_option maxRecDepth 100000 in
set_option maxHeartbeats 400000 in
theorem primesT_any (n : Nat) (w : World) (hn : n ≤ 255) :
  Calls Tryz.prog 35 #[.int .u8 n] w fun e w' => (∃ A c, e = .returned (.slice A (primesOf n).length c) ∧ TRow w' (.slice A (primesOf n).length c) (primesOf n)) ∧ Below w.heap.size w w' := by
 have hn' : (n : Int) ≤ 255 := by omega
 have hlt : n % 10 < 10 := Nat.mod_lt _ (by omega)
 have hg := primes_get w (n % 10) hlt
 have HR := Lib.hid (primes_row w (n % 10) hlt)
 have HL : Box ((primeTable.getD (n % 10) []).length ≤ 4) := ⟨(primes_all _ hlt).2⟩
 have hp : primesOf n = primeTable.getD (n % 10) [] := rfl
 rw [hp]
 clear hp hlt
 generalize primeTable.getD (n % 10) [] = x at *
 go_enter Tryz.func35, Tryz.ntmps35
 go_wp2
 go_ret
 have hcl : Cells _ _ _ _ := HR.out
 refine ⟨⟨_, _, rfl, ?_⟩, ?_⟩
 ·exact trow_cells hcl rfl (by have := HL.out; omega)
 ·exact allocs_heap.allocs_below (primeObjs w) w
set_option maxRecDepth 100000 in
set_option maxHeartbeats 2000000 in
theorem intervalT_any (AP : Option Addr) (cp n : Nat) (a b c d : Int) (w : World) (hn : n ≤ 4) (h4 : Four [a, b, c, d]) :
  Calls Tryz.prog 37 #[.slice AP n cp, .agg #[.int .i8 a, .int .i8 b, .int .i8 c, .int .i8 d]] w fun e w' => (∃ A c', e = .returned (.slice A (ivlTo [a, b, c, d] n).length c') ∧ TRow w' (.slice A (ivlTo [a, b, c, d] n).length c') (ivlTo [a, b, c, d] n)) ∧ Below w.heap.size w w' := by
 obtain ⟨i0, hi0, hz0, hz1, hz2⟩ := info_parts Tryz.info_int
 have H4 : Box (Four [a, b, c, d]) := ⟨h4⟩
 clear h4
 go_enter Tryz.func37, Tryz.ntmps37
 go_wp2_with fail
 go_loopw [5, 6] (fun o i wr => ∃ j : Nat, j ≤ n ∧ i = .int .i64 j ∧ wr.ownsRow (w.heap.size + 1) 3 1 o j (is (ivlTo [a, b, c, d] j)) ∧ Below (w.heap.size + 1) (w.alloc (.cells #[.int .i8 a, .int .i8 b, .int .i8 c, .int .i8 d] 109)) wr) (fun _ i _ => n - (intOf i).toNat)
 case atStart => exact ⟨0, Nat.zero_le _, rfl, World.ownsRow_nil _ _ _ _, Below.refl _ _⟩
 case round =>
  obtain ⟨j, hj, rfl, hown, hbw⟩ := hrel
  have HO := Lib.hid hown
  clear hown
  by_cases hlt : j < n
  ·have hj4 : j < 4 := by omega
   have hc := four_cell hbw hj4
   have hbd := H4.out.le j hj4
   have e3 : ivlTo [a, b, c, d] (j + 1) = ivlTo [a, b, c, d] j ++ [([a, b, c, d][j]?.getD 0).tmod 10] := rfl
   generalize [a, b, c, d][j]?.getD 0 = z at *
   have E3 := Lib.hid e3
   clear e3
   have htb := tmod_bound z
   go_wp2_with (at_builtin; refine wpList_append_own _ rfl _ _ _ rfl (w.heap.size + 1) 3 i0 (.int .i64 0) 1 8 Tryz.underlying40 hi0 hz0 hz1 hz2 rfl (by decide) _ _ _ rfl (HO.out.alloc _) ⟨wr.heap.size, 0, Option.none⟩ 1 1 [_] rfl rfl (cell_one_new _ _ _) (by intro u hu; simp at hu; subst hu; rfl) (by unfold maxLen; omega) (by omega) (by have := hbw.size; simp at this; simp; omega) ?_; intro v3 w3 hown3 hg3 _)
   go_wp2
   go_roundw
   case rel =>
    refine ⟨j + 1, by omega, by go_num, ?_, ?_⟩
    ·rw [E3.out, is_append]; exact hown3
    ·exact (hbw.alloc (by have := hbw.size; simp at this; omega) _).grown hg3 (by have := hbw.size; simp at this; simp; omega) (fun k hk => (HO.out.lt k hk).1)
   case measure => (simp [intOf]; try omega)
  ·obtain rfl : j = n := by omega
   have hex : wr.ownsRow (w.heap.size + 1) 3 1 u5 (ivlTo [a, b, c, d] j).length (is (ivlTo [a, b, c, d] j)) := by rw [ivlTo_len]; exact HO.out
   have HRI := Lib.hid (TRow.of_own hex)
   clear hex
   go_wp2
   go_ret
   obtain ⟨A, cc, e, _⟩ := id HRI.out
   subst e
   exact ⟨⟨_, _, rfl, HRI.out⟩, below_result hbw⟩

set_option maxRecDepth 100000 in
set_option maxHeartbeats 8000000 in
theorem make48_any (n : Nat) (v : Value) (l : List (List Bt)) (w : World) (hS : Std w) (hn : n ≤ 255) (hv : PlA w v l) (hf : fitsPl l = true) :
  Calls Tryz.prog 11 #[.agg #[.int .u8 n, v]] w fun e w' => (∃ pv vv, e = .returned (.agg #[pv, vv]) ∧ ScV w' w'.heap.size pv vv (makeSc n l)) ∧ Below w.heap.size w w' := by
 obtain ⟨i0, hi0, hz0, hz1, hz2⟩ := info_parts Tryz.info_row
 obtain ⟨je, hie, gz0, gz1, gz2⟩ := info_parts Tryz.info_event48
 obtain ⟨kv, hiv, fz0, fz1, fz2⟩ := info_parts Tryz.info_voice48
 obtain ⟨h3, hmem⟩ := fits_mem hf
 have HM : Box (∀ i : Nat, (l[i]?.getD []).length ≤ 6 ∧ ∀ b ∈ l[i]?.getD [], b.notes.length ≤ 4) := ⟨hmem⟩
 have HP4 : Box ((primesOf n).length ≤ 4) := ⟨(primesOf_ok n).2⟩
 have HMK : Box (makeSc n l = ⟨primesOf n, makeTo (primesOf n) l l.length⟩) := ⟨by unfold makeSc; rw [Nat.min_eq_left h3]⟩
 have HPR := Lib.hid (fun W => primesT_any n W hn)
 have HS := Lib.hid hS
 generalize makeSc n l = out at *
 generalize primesOf n = p at *
 obtain ⟨A, c, rfl, hlc, hcm, hl⟩ := hv
 obtain ⟨W0, hW0⟩ : ∃ W0, W0 = (w.alloc (.cells #[.int .u8 n, .slice A l.length c] 39)).alloc (.cells #[.slice Option.none 0 0, .slice Option.none 0 0] 29) := ⟨_, rfl⟩
 have hb0 : Below w.heap.size w W0 := by rw [hW0]; exact ((Below.refl _ _).alloc (Nat.le_refl _) _).alloc (by simp) _
 have HPB : Hid (Cells W0 w.heap.size 39 [.int .u8 n, .slice A l.length c]) := Lib.hid (by rw [hW0]; exact (Cells.new w 39 #[.int .u8 n, .slice A l.length c]).alloc _)
 have HRB : Hid (Cells W0 (w.heap.size + 1) 29 [.slice Option.none 0 0, .slice Option.none 0 0]) := Lib.hid (by
  have h := Cells.new (w.alloc (.cells #[.int .u8 n, .slice A l.length c] 39)) 29 #[.slice Option.none 0 0, .slice Option.none 0 0]
  rw [World.size_alloc] at h
  rw [hW0]
  exact h)
 have HB0 := Lib.hid hb0
 have HL0 := Lib.hid (hl.lift hb0 (fun _ _ _ h => h.lift hb0))
 have hw0 := hb0.size
 unfold maxLen at hcm
 obtain ⟨z0, z1⟩ := cel2 HPB.out
 clear hl hmem hf hb0 hS
 go_enter Tryz.func11, Tryz.ntmps11
 go_upto_region 1 with (fail)
 rw [← hW0]
 clear hW0
 go_wp2_with fail
 refine (HPR.out _).mono ?_
 rintro e w1 ⟨⟨AP, cp, rfl, htr⟩, hb1⟩
 have hw1 := hb1.size
 obtain ⟨W1, hW1⟩ : ∃ W1, W1 = w1.alloc (.cells #[.slice AP p.length cp, .slice Option.none 0 0] 29) := ⟨_, rfl⟩
 have hb2 : Below w1.heap.size w1 W1 := by rw [hW1]; exact (Below.refl _ _).alloc (Nat.le_refl _) _
 obtain ⟨SB, hSB⟩ : ∃ SB, SB = w1.heap.size := ⟨_, rfl⟩
 have HSB : Hid (Cells W1 SB 29 [.slice AP p.length cp, .slice Option.none 0 0]) := Lib.hid (by rw [hW1, hSB]; exact Cells.new w1 29 #[.slice AP p.length cp, .slice Option.none 0 0])
 have HIP := Lib.hid (IRow.of_trow htr)
 rw [← hSB] at HIP
 have HB1 := Lib.hid (HB0.out.trans (hb1.mono hw0))
 have HPB1 := Lib.hid (HPB.out.below hb1 HPB.out.lt)
 have HRB1 := Lib.hid (HRB.out.below hb1 HRB.out.lt)
 have HL1 := Lib.hid (HL0.out.lift hb1 (fun _ _ _ h => h.lift hb1))
 have HBS : Hid (Below SB w1 W1) := Lib.hid (by rw [hSB]; exact hb2)
 have hpl := HP4.out
 have HSBE : Box (SB = w1.heap.size) := ⟨hSB⟩
 have hSBw : w.heap.size ≤ SB := by omega
 clear htr hb1 hb2 HPB HRB HL0 HPR z0 z1 HB0
 go_upto_region 3 with (fail)
 rw [← hW1, ← hSB]
 clear hW1 hSB
 go_loopw [4] (fun i wr => ∃ (k : Nat) (vv : Value), k ≤ l.length ∧ i = .int .i64 k ∧ Cells wr SB 29 [.slice AP p.length cp, vv] ∧ VcO wr (SB + 1) vv (makeTo p l k) ∧ Below SB w1 wr) (fun i _ => l.length - (intOf i).toNat)
 case atStart => exact ⟨0, _, Nat.zero_le _, rfl, HSB.out, VcO.nil _ _, HBS.out⟩
 case round =>
  clear HSB HBS
  obtain ⟨k, vv, hk, rfl, hsb, hvc, hbs⟩ := hrel
  have HPR := Lib.hid (HPB1.out.below (HSBE.out ▸ hbs) HPB1.out.lt)
  obtain ⟨z0, z1⟩ := cel2 HPR.out
  by_cases hlt : k < l.length
  ·have hbw1 : Below w1.heap.size w1 wr := HSBE.out ▸ hbs
   obtain ⟨b1, o1, A1, c1, rfl, hb1, q0, h1c, h1m, h1l⟩ := HL1.out.voice hlt
   have HL2 := Lib.hid h1l
   have HQ0 := Lib.hid q0
   have hgd : l[k]?.getD [] = l[k]'hlt := by rw [List.getElem?_eq_getElem hlt]; rfl
   obtain ⟨hu6, hu4⟩ := HM.out k
   rw [hgd] at hu6 hu4
   have HU4 : Box (∀ b ∈ l[k]'hlt, b.notes.length ≤ 4) := ⟨hu4⟩
   have HNX : Box (makeTo p l (k + 1) = makeTo p l k ++ [voiceE p.length k (l[k]'hlt)]) := ⟨by rw [makeTo, hgd]⟩
   have hk3 : (k : Int) < 3 := by omega
   have hk0 : (0 : Int) ≤ (k : Int) := by omega
   have hkl : (k : Int) < (l.length : Int) := by omega
   have HVC := Lib.hid hvc
   have HSBr := Lib.hid hsb
   have HBW1 := Lib.hid hbw1
   have HBSr := Lib.hid hbs
   have hsbl := hsb.lt
   clear hgd hu4 h1l hbw1 hsb hvc hbs q0
   generalize l[k]'hlt = u at *
   unfold maxLen at h1m
   obtain ⟨W2, hW2⟩ : ∃ W2, W2 = wr.alloc (.cells #[.string ⟨#[97]⟩, .string ⟨#[66, 97, 115, 115, 95, 50]⟩, .string ⟨#[99, 35, 39]⟩] 9) := ⟨_, rfl⟩
   have hbW2 : Below wr.heap.size wr W2 := by rw [hW2]; exact (Below.refl _ _).alloc (Nat.le_refl _) _
   have hnm : W2.cell? ⟨wr.heap.size, k, Option.none⟩ = some (.string ⟨(nameOf k).toArray⟩) := by
    have hc := Cells.new wr 9 #[.string ⟨#[97]⟩, .string ⟨#[66, 97, 115, 115, 95, 50]⟩, .string ⟨#[99, 35, 39]⟩]
    rw [hW2, hc.cell k]
    match k, hlt with
    | 0, _ => rfl
    | 1, _ => rfl
    | 2, _ => rfl
    | k + 3, h => omega
   obtain ⟨VB, hVB⟩ : ∃ VB, VB = W2.heap.size := ⟨_, rfl⟩
   obtain ⟨W3, hW3⟩ : ∃ W3, W3 = W2.alloc (.cells #[.string ⟨(nameOf k).toArray⟩, .slice Option.none 0 0] 48) := ⟨_, rfl⟩
   have HVB : Hid (Cells W3 VB 48 [.string ⟨(nameOf k).toArray⟩, .slice Option.none 0 0]) := Lib.hid (by rw [hW3, hVB]; exact Cells.new W2 48 #[.string ⟨(nameOf k).toArray⟩, .slice Option.none 0 0])
   have HBV : Hid (Below VB W2 W3) := Lib.hid (by rw [hW3, hVB]; exact (Below.refl _ _).alloc (Nat.le_refl _) _)
   have HVBE : Box (VB = W2.heap.size) := ⟨hVB⟩
   have HW1 := Lib.hid (HBW1.out.trans (hbW2.mono HBW1.out.size))
   have HSB2 := Lib.hid (HSBr.out.below hbW2 HSBr.out.lt)
   have HBW2 := Lib.hid hbW2
   have hVSB : SB < VB := by have := hbW2.size; omega
   obtain ⟨nmk, hnmk⟩ : ∃ nmk, nameOf k = nmk := ⟨_, rfl⟩
   rw [hnmk] at hnm hW3 HVB
   have HNMK : Box (nameOf k = nmk) := ⟨hnmk⟩
   clear hnmk hbW2
   have hVB2 : VB = wr.heap.size + 1 := by rw [hVB, hW2]; simp
   have hnm2 := hnm
   rw [hW2] at hnm2
   go_upto_region 6 with (fail)
   rw [← hW2]
   rw [← hW3, ← hVB2]
   clear hW3 hW2 hVB hVB2 hnm hnm2 z0 z1
   go_wp2_with fail
   go_loopw [6] (fun i wx => ∃ (j : Nat) (ev : Value), j ≤ u.length ∧ i = .int .i64 j ∧ Cells wx VB 48 [.string ⟨nmk.toArray⟩, ev] ∧ EvO wx (VB + 1) ev ((u.take j).map (beatE p.length)) ∧ Below VB W2 wx) (fun i _ => u.length - (intOf i).toNat)
   case atStart => exact ⟨0, _, Nat.zero_le _, rfl, HVB.out, EvO.nil _ _, HBV.out⟩
   case round =>
    rename World => wx
    clear HVB HBV
    obtain ⟨j, ev, hj, rfl, hvb, hevo, hbv⟩ := hrel
    have hbx2 : Below W2.heap.size W2 wx := HVBE.out ▸ hbv
    have HB1x := Lib.hid (HW1.out.trans (hbx2.mono HW1.out.size))
    have HPBx := Lib.hid (HPB1.out.below HB1x.out HPB1.out.lt)
    obtain ⟨z0, z1⟩ := cel2 HPBx.out
    have q0 := keep_cell HQ0.out HB1x.out
    by_cases hjl : j < u.length
    ·obtain ⟨b2, o2, A2, c2, rfl, hb2, r0, r1, hlen, h2c, h2m, h2l⟩ := HL2.out.beat hjl
     have HL3 := Lib.hid h2l
     have hn4 := HU4.out _ (List.getElem_mem hjl)
     have HNE : Box ((u.take (j + 1)).map (beatE p.length) = (u.take j).map (beatE p.length) ++ [beatE p.length (u[j]'hjl)]) := ⟨by rw [List.take_succ_eq_append_getElem hjl, List.map_append]; rfl⟩
     replace r0 := keep_cell r0 HB1x.out
     replace r1 := keep_cell r1 HB1x.out
     have HVBx := Lib.hid hvb
     have HEVx := Lib.hid hevo
     have HBVx := Lib.hid hbv
     have hvbl := hvb.lt
     clear h2l hvb hevo hbv hbx2
     generalize u[j]'hjl = bt at *
     obtain ⟨len, ns⟩ := bt
     dsimp only at *
     unfold maxLen at h2m
     have hji : (j : Int) < (u.length : Int) := by omega
     have hj0 : (0 : Int) ≤ (j : Int) := by omega
     obtain ⟨BB, hBB⟩ : ∃ BB, BB = wx.heap.size := ⟨_, rfl⟩
     obtain ⟨W4, hW4⟩ : ∃ W4, W4 = wx.alloc (.cells #[.int .u8 (len : Nat), .slice A2 ns.length c2] 104) := ⟨_, rfl⟩
     have hba : Below wx.heap.size wx W4 := by rw [hW4]; exact (Below.refl _ _).alloc (Nat.le_refl _) _
     have HBB : Hid (Cells W4 BB 104 [.int .u8 (len : Nat), .slice A2 ns.length c2]) := Lib.hid (by rw [hW4, hBB]; exact Cells.new wx 104 #[.int .u8 (len : Nat), .slice A2 ns.length c2])
     have HX4 := Lib.hid hba
     obtain ⟨y0, y1⟩ := cel2 HBB.out
     clear hba
     go_upto_region 10 with (fail)
     rw [← hW4, ← hBB]
     clear hW4 hBB r0 r1 q0 z0 z1
     have hcst : ((1 + len % 24 : Nat) : Int) = 1 + (len : Int) % 24 := by omega
     have HO : Hid (∀ W, Std W → Calls Tryz.prog 36 #[.int .i64 (1 + (len : Int) % 24), .int .i64 12] W fun e w' => e = .returned (.tuple #[.agg #[.string ⟨(t12n (1 + len % 24)).toArray⟩, .string ⟨(t12d (1 + len % 24)).toArray⟩], .int .i64 0]) ∧ Below W.heap.size W w') := Lib.hid (fun W h => by
      have h1 := fracOf_any (1 + (len : Int) % 24) 12 W h (by omega) (by decide) (by decide)
      unfold t12n t12d
      rw [hcst]
      exact h1)
     have HSW4 := Lib.hid (HS.out.below (HB1.out.trans ((HB1x.out.trans (HX4.out.mono HB1x.out.size)).mono HB1.out.size)) (Nat.le_refl _))
     have hw1 : IntKind.i64.wrap ((len : Int) % 24) = (len : Int) % 24 := IntWalk.i64_in _ (by omega)
     have hw2 : IntKind.i64.wrap (1 + (len : Int) % 24) = 1 + (len : Int) % 24 := IntWalk.i64_in _ (by omega)
     have hw3 : IntKind.i64.wrap (len : Int) = (len : Int) := IntWalk.i64_in _ (by omega)
     have HEB : Box (beatE p.length ⟨len, ns⟩ = ⟨t12n (1 + len % 24), t12d (1 + len % 24), ns.map fun x => ivlTo x p.length⟩) := ⟨rfl⟩
     clear hcst
     generalize beatE p.length ⟨len, ns⟩ = be at *
     generalize t12n (1 + len % 24) = tn at *
     generalize t12d (1 + len % 24) = td at *
     go_wp2_with fail
     refine (HO.out _ HSW4.out).mono ?_
     rintro e w5 ⟨rfl, hb5⟩
     obtain ⟨W5, hW5⟩ : ∃ W5, W5 = w5.alloc (.cells #[.string ⟨tn.toArray⟩, .string ⟨td.toArray⟩] 51) := ⟨_, rfl⟩
     have hba5 : Below w5.heap.size w5 W5 := by rw [hW5]; exact (Below.refl _ _).alloc (Nat.le_refl _) _
     obtain ⟨LB, hLB⟩ : ∃ LB, LB = w5.heap.size := ⟨_, rfl⟩
     have HLB : Hid (Cells W5 LB 51 [.string ⟨tn.toArray⟩, .string ⟨td.toArray⟩]) := Lib.hid (by rw [hW5, hLB]; exact Cells.new w5 51 #[.string ⟨tn.toArray⟩, .string ⟨td.toArray⟩])
     have HX5 := Lib.hid (HX4.out.trans ((hb5.trans (hba5.mono hb5.size)).mono HX4.out.size))
     have HBB5 := Lib.hid (HBB.out.below (hb5.trans (hba5.mono hb5.size)) HBB.out.lt)
     obtain ⟨l0, l1⟩ := cel2 HLB.out
     clear hb5 hba5 HBB HX4 HSW4 HO y0 y1 hw1 hw2 hw3
     go_upto_region 11 with (fail)
     rw [← hW5, ← hLB]
     clear hW5 hLB
     obtain ⟨XB, hXB⟩ : ∃ XB, XB = W5.heap.size := ⟨_, rfl⟩
     obtain ⟨W6, hW6⟩ : ∃ W6, W6 = W5.alloc (.cells #[.string ⟨tn.toArray⟩, .string ⟨td.toArray⟩, .slice Option.none 0 0] 54) := ⟨_, rfl⟩
     have HXB : Hid (Cells W6 XB 54 [.string ⟨tn.toArray⟩, .string ⟨td.toArray⟩, .slice Option.none 0 0]) := Lib.hid (by rw [hW6, hXB]; exact Cells.new W5 54 #[.string ⟨tn.toArray⟩, .string ⟨td.toArray⟩, .slice Option.none 0 0])
     have HBX : Hid (Below XB W5 W6) := Lib.hid (by rw [hW6, hXB]; exact (Below.refl _ _).alloc (Nat.le_refl _) _)
     have HXBE : Box (XB = W5.heap.size) := ⟨hXB⟩
     have hVX : VB < XB := by have := HX5.out.size; omega
     go_upto_region 12 with (fail)
     rw [← hW6, ← hXB]
     clear hW6 hXB l0 l1 HLB
     go_wp2_with fail
     go_loopw [11] (fun i wy => ∃ (m : Nat) (nv : Value), m ≤ ns.length ∧ i = .int .i64 m ∧ Cells wy XB 54 [.string ⟨tn.toArray⟩, .string ⟨td.toArray⟩, nv] ∧ NtO wy (XB + 1) nv ((ns.take m).map fun x => ivlTo x p.length) ∧ Below XB W5 wy) (fun i _ => ns.length - (intOf i).toNat)
     case atStart => exact ⟨0, _, Nat.zero_le _, rfl, HXB.out, NtO.nil _ _, HBX.out⟩
     case round =>
      rename World => wy
      clear HXB HBX
      obtain ⟨m, nv, hm, rfl, hxb, hnt, hbx⟩ := hrel
      have hb5y : Below W5.heap.size W5 wy := HXBE.out ▸ hbx
      have HXY := Lib.hid (HX5.out.trans (hb5y.mono HX5.out.size))
      have HBBy := Lib.hid (HBB5.out.below hb5y HBB5.out.lt)
      obtain ⟨y0, y1⟩ := cel2 HBBy.out
      have HB1y := Lib.hid (HB1x.out.trans (HXY.out.mono HB1x.out.size))
      by_cases hml : m < ns.length
      ·obtain ⟨b3, o3, a0, a1, a2, a3, rfl, hb3, hnm, hf4, t0, t1, t2, t3⟩ := HL3.out.note hml
       have HNN : Box ((ns.take (m + 1)).map (fun x => ivlTo x p.length) = (ns.take m).map (fun x => ivlTo x p.length) ++ [ivlTo [a0, a1, a2, a3] p.length]) := ⟨by rw [List.take_succ_eq_append_getElem hml, List.map_append, hnm]; rfl⟩
       have HNL : Box (((ns.take m).map (fun x => ivlTo x p.length)).length = m) := ⟨by rw [List.length_map, List.length_take]; omega⟩
       replace t0 := keep_cell t0 HB1y.out
       replace t1 := keep_cell t1 HB1y.out
       replace t2 := keep_cell t2 HB1y.out
       replace t3 := keep_cell t3 HB1y.out
       have hSB4 := HSB2.out.below ((HVBE.out ▸ HBVx.out : Below W2.heap.size W2 wx).trans (HXY.out.mono (HVBE.out ▸ HBVx.out : Below W2.heap.size W2 wx).size)) HSB2.out.lt
       obtain ⟨s0, s1⟩ := cel2 hSB4
       obtain ⟨x0, x1, x2⟩ := cel3 hxb
       have HXBy := Lib.hid hxb
       have HNTy := Lib.hid hnt
       have HBXy := Lib.hid hbx
       have HIV := Lib.hid (fun W => intervalT_any AP cp p.length a0 a1 a2 a3 W hpl hf4)
       have hmi : (m : Int) < (ns.length : Int) := by omega
       have hm0 : (0 : Int) ≤ (m : Int) := by omega
       have hxbl := hxb.lt
       clear hnm hf4 hxb hnt hbx hb5y
       generalize (ns.take m).map (fun x => ivlTo x p.length) = nl at *
       generalize ivlTo [a0, a1, a2, a3] p.length = iv at *
       go_wp2_with fail
       have hB : Below wy.heap.size wy wy.drew := below_to_drew (Below.refl _ _)
       obtain ⟨css, hlo⟩ := HNTy.out
       have hown := hlo.own
       rw [HNL.out] at hown
       have hws : XB < wy.heap.size := hxbl
       go_region_law (first
        | (refine step_append_lies _ (by rfl) _ _ _ (by rfl) (XB + 1) 40 i0 _ 1 24 Tryz.underlying52 hi0 hz0 hz1 hz2 rfl (by omega) nv m css.flatten (by rfl) (hownA.alloc _) ⟨wA.heap.size, 0, Option.none⟩ 1 1 [.slice A9 iv.length c9] (by rfl) (by rfl) (World.news_of_block (cs := #[.slice A9 iv.length c9]) (t := 40) (fr := (0, 0)) (heap_alloc_new wA _)) (by simp [Value.oneCell']) (by omega) (by unfold maxLen; omega) (by omega) (by simp; omega) (wA.heap.size + 1) (by simp) ?_; intro gB cB wB hownB hgB hatB hltB; obtain ⟨hxB, hloB, hxN, hbN⟩ := cell_grow (j := 2) (Q := fun w => NoteQ w w.heap.size) (x := iv) (cs := [.slice A9 iv.length c9]) (fun hk h => h.keep hk (by decide) hk.size) hloA hxA (by decide) ⟨_, rfl, IRow.of_trow htr⟩ rfl hgB (by rw [HNL.out]; exact hownB); have fB := hxB.free 2; obtain ⟨_, _, sB⟩ := cel3 hxB)
        | (go_simp; go_at_call 37; (with_reducible refine (HIV.out _).mono ?_); rintro e wA ⟨⟨A9, c9, rfl, htr⟩, hbk⟩; replace hB := hB.trans (hbk.mono hB.size); clear hbk; have hxA := HXBy.out.below hB HXBy.out.lt; obtain ⟨v0, v1, v2⟩ := cel3 hxA; obtain ⟨v3, v4, v5⟩ := cel3 (hxA.alloc (.cells #[.slice A9 iv.length c9] 40)); have hloA := hlo.below hB (fun _ _ _ h => NoteQ.keep (E := []) (KpT.of_below hB) (by simp) hB.size h); have hownA := hloA.own; rw [HNL.out] at hownA; have hwA := hB.size))
       all_goals
        have HXN := Lib.hid hxN
        have HLN := Lib.hid hloB
        have HBN := Lib.hid (HBXy.out.trans ((hB.mono (Nat.le_of_lt hws)).trans (hbN XB (Nat.le_succ _) (Nat.le_refl _) (by omega))))
        clear hxB hloB hxN hbN fB sB hownB hgB hatB hltB hB hxA hloA hownA v0 v1 v2 v3 v4 v5 s0 s1 x0 x1 x2 y0 y1 t0 t1 t2 t3
        go_wp2_with fail
        go_roundw
        case rel => exact ⟨m + 1, _, by omega, by go_num, HXN.out, ⟨_, by rw [HNN.out]; exact HLN.out⟩, HBN.out⟩
        case measure => simp [intOf]; omega
      ·obtain rfl : m = ns.length := by omega
       rw [List.take_length] at hnt
       obtain ⟨AN, cN, rfl, hN1, hN2, hN3⟩ := hnt.shape
       have hvby := HVBx.out.below HXY.out hvbl
       obtain ⟨css, hlo⟩ := HEVx.out.below HXY.out
       have HEL : Box (((u.take j).map (beatE p.length)).length = j) := ⟨by rw [List.length_map, List.length_take]; omega⟩
       have hown := hlo.own
       rw [HEL.out] at hown
       have hqe : EvQ wy wy.heap.size be [.string ⟨tn.toArray⟩, .string ⟨td.toArray⟩, .slice AN (ns.map fun x => ivlTo x p.length).length cN] := by
        rw [HEB.out]
        exact ⟨AN, cN, rfl, hN1, hN2, hN3⟩
       have HQE := Lib.hid hqe
       have HLOv := Lib.hid hlo
       have HVy := Lib.hid hvby
       obtain ⟨s0, s1⟩ := cel2 hvby
       obtain ⟨x0, x1, x2⟩ := cel3 hxb
       have hx1 := hxb.alloc (.cells #[.string ⟨tn.toArray⟩, .string ⟨td.toArray⟩, .slice AN (ns.map fun x => ivlTo x p.length).length cN] 54)
       have hvl1 := hvby.lt
       have HBVy := Lib.hid (HBVx.out.trans (HXY.out.mono (Nat.le_of_lt hvbl)))
       have hvw : VB < wy.heap.size := hvl1
       clear hxb hnt hbx hb5y hN1 hN2 hN3 hlo hvby hqe hx1
       generalize (ns.map fun x => ivlTo x p.length).length = nsl at *
       go_wp2_with (at_builtin; refine wpList_append_own _ rfl _ _ _ rfl (VB + 1) 54 je (.agg #[.string ⟨#[]⟩, .string ⟨#[]⟩, .slice Option.none 0 0]) 3 56 Tryz.underlying46 hie gz0 gz1 gz2 rfl (by decide) _ _ _ rfl (hown.alloc _) ⟨wy.heap.size, 0, Option.none⟩ 1 1 [.string ⟨tn.toArray⟩, .string ⟨td.toArray⟩, .slice AN nsl cN] rfl rfl (World.news_of_block (cs := #[.string ⟨tn.toArray⟩, .string ⟨td.toArray⟩, .slice AN nsl cN]) (t := 54) (fr := (0, 0)) (heap_alloc_new wy _)) (by simp [Value.oneCell']) (by unfold maxLen; omega) (by omega) (by simp; omega) ?_; intro v9 w9 hown9 hg9 _; obtain ⟨g9, c9, rfl, _, _⟩ := hown9.form (by omega); obtain ⟨hxB, hloB, hxN, hbN⟩ := cell_grow (j := 1) (Q := fun w => EvQ w w.heap.size) (x := be) (fun hk h => h.keep hk (by decide) (by decide) hk.size) HLOv.out HVy.out (by decide) HQE.out rfl hg9 (by rw [HEL.out]; exact hown9); have fB := hxB.free 1; obtain ⟨_, sB⟩ := cel2 hxB)
       have HXN := Lib.hid hxN
       have HLN := Lib.hid hloB
       have HBN := Lib.hid (HBVy.out.trans (hbN VB (Nat.le_succ _) (Nat.le_refl _) (Nat.le_of_lt hvw)))
       clear hxB hloB hxN hbN fB sB
       go_roundw
       case rel => exact ⟨j + 1, _, by omega, by go_num, HXN.out, ⟨_, by rw [HNE.out]; exact HLN.out⟩, HBN.out⟩
       case measure => simp [intOf]; omega
    ·obtain rfl : j = u.length := by omega
     rw [List.take_length] at hevo
     obtain ⟨AE, cE, rfl, hE1, hE2, hE3⟩ := hevo.shape
     have hsbx := HSB2.out.below hbx2 HSB2.out.lt
     have hrx : Below wr.heap.size wr wx := HBW2.out.trans (hbx2.mono HBW2.out.size)
     obtain ⟨css, hlo⟩ := HVC.out.below hrx
     have HEL : Box ((makeTo p l k).length = k) := ⟨makeTo_len p l k⟩
     have hown := hlo.own
     rw [HEL.out] at hown
     have hqv : VcQ wx wx.heap.size (voiceE p.length k u) [.string ⟨nmk.toArray⟩, .slice AE (u.map (beatE p.length)).length cE] := by
      unfold voiceE
      rw [HNMK.out]
      exact ⟨AE, cE, rfl, hE1, hE2, hE3⟩
     have HQV := Lib.hid hqv
     have HLOv := Lib.hid hlo
     have HSx := Lib.hid hsbx
     obtain ⟨s0, s1⟩ := cel2 hsbx
     obtain ⟨x0, x1⟩ := cel2 hvb
     have hsw : SB < wx.heap.size := hsbx.lt
     have HBSx := Lib.hid (HBSr.out.trans (hrx.mono (Nat.le_of_lt hsbl)))
     clear hvb hevo hbv hbx2 hE1 hE2 hE3 hlo hsbx hqv hrx
     generalize (u.map (beatE p.length)).length = ul at *
     go_wp2_with (at_builtin; refine wpList_append_own _ rfl _ _ _ rfl (SB + 1) 48 kv (.agg #[.string ⟨#[]⟩, .slice Option.none 0 0]) 2 40 Tryz.underlying27 hiv fz0 fz1 fz2 rfl (by decide) _ _ _ rfl (hown.alloc _) ⟨wx.heap.size, 0, Option.none⟩ 1 1 [.string ⟨nmk.toArray⟩, .slice AE ul cE] rfl rfl (World.news_of_block (cs := #[.string ⟨nmk.toArray⟩, .slice AE ul cE]) (t := 48) (fr := (0, 0)) (heap_alloc_new wx _)) (by simp [Value.oneCell']) (by unfold maxLen; omega) (by omega) (by simp; omega) ?_; intro v9 w9 hown9 hg9 _; obtain ⟨g9, c9, rfl, _, _⟩ := hown9.form (by omega); obtain ⟨hxB, hloB, hxN, hbN⟩ := cell_grow (j := 1) (Q := fun w => VcQ w w.heap.size) (x := voiceE p.length k u) (fun hk h => h.keep hk (by decide) (by decide) (by decide) hk.size) HLOv.out HSx.out (by decide) HQV.out rfl hg9 (by rw [HEL.out]; exact hown9); have fB := hxB.free 1; obtain ⟨_, sB⟩ := cel2 hxB)
     have HXN := Lib.hid hxN
     have HLN := Lib.hid hloB
     have HBN := Lib.hid (HBSx.out.trans (hbN SB (Nat.le_succ _) (Nat.le_refl _) (Nat.le_of_lt hsw)))
     clear hxB hloB hxN hbN fB sB
     go_roundw
     case rel => exact ⟨k + 1, _, by omega, by go_num, HXN.out, ⟨_, by rw [HNX.out]; exact HLN.out⟩, HBN.out⟩
     case measure => simp [intOf]; omega
  ·obtain rfl : k = l.length := by omega
   have hrb := HRB1.out.below (HSBE.out ▸ hbs) HRB1.out.lt
   have y0 := hrb.free 0
   have y1 := hrb.free 1
   obtain ⟨x0, x1⟩ := cel2 hsb
   obtain ⟨AV, cV, rfl, hV1, hV2, hV3⟩ := hvc.shape
   obtain ⟨r0, r1⟩ := cel2 hrb
   have HSV := Lib.hid (show ScV wr wr.heap.size (.slice AP p.length cp) (.slice AV (makeTo p l l.length).length cV) ⟨p, makeTo p l l.length⟩ from ⟨(HIP.out.keep (E := []) (KpT.of_below hbs) (by simp) (Nat.le_of_lt hsb.lt)), AV, cV, rfl, hV1, hV2, hV3⟩)
   have HRBx := Lib.hid hrb
   have HBF := Lib.hid (HB1.out.trans ((HSBE.out ▸ hbs : Below w1.heap.size w1 wr).mono HB1.out.size))
   clear hrb hsb hvc hbs hV1 hV2 hV3
   generalize (makeTo p l l.length).length = ml at *
   go_wp2_with fail
   have hset := (HRBx.out.set 0 (.slice AP p.length cp)).set 1 (.slice AV ml cV)
   have hk : KpT [29] wr.heap.size wr ((wr.setCell ⟨w.heap.size + 1, 0, Option.none⟩ (.slice AP p.length cp)).setCell ⟨w.heap.size + 1, 1, Option.none⟩ (.slice AV ml cV)) := ((KpT.refl _ _ _).setCell (TyB.of_cells HRBx.out) (by simp) _).setCell (TyB.of_cells (HRBx.out.set 0 (.slice AP p.length cp))) (by simp) _
   obtain ⟨w0, w1'⟩ := cel2 hset
   refine bodyPost_ret (v := .agg #[.slice AP p.length cp, .slice AV ml cV]) (by simp (maxDischargeDepth := 10) [results, Tryz.results11, go_sem, w0, w1']) rfl ⟨⟨_, _, rfl, ?_⟩, ?_⟩
   ·rw [HMK.out]
    exact HSV.out.keep hk (by decide) (by decide) (by decide) (by decide) hk.size
   ·exact (HBF.out.setCell (p := ⟨w.heap.size + 1, 0, Option.none⟩) (Nat.le_succ _) _).setCell (p := ⟨w.heap.size + 1, 1, Option.none⟩) (Nat.le_succ _) _

end Go.Proofs.YtaaeekahhhookaaGreatDoor

namespace Go.Proofs.YtaaeekahhhookaaGreatDoor
open Go.RowKit Go.Lib

/-- Block b holds notes, and may be written. -/
def Free (w : World) (b : Nat) : Prop := ∃ cur, w.heap[b]? = some (Obj.cells cur 40)
theorem Free.tyb {w : World} {b : Nat} (h : Free w b) : TyB w b 40 := by
 obtain ⟨cur, h⟩ := h
 exact ⟨cur, _, h⟩
theorem Free.keep {w w' : World} {b : Nat} (h : Free w b) (e : w'.heap[b]? = w.heap[b]?) : Free w' b := by
 obtain ⟨cur, h⟩ := h
 exact ⟨cur, e.trans h⟩
theorem Free.frozen {w : World} {b : Nat} (h : Free w b) (k : Nat) : w.frozen? ⟨b, k, Option.none⟩ = false := by
 obtain ⟨cur, h⟩ := h
 simp [World.frozen?, h]
/-- An event and the block of its notes; a voice and the blocks of its events' notes. -/
def EvQs (w : World) (B : Nat) (x : Ev × Nat) (cs : List Value) : Prop := ∃ A c, cs = [.string ⟨x.1.num.toArray⟩, .string ⟨x.1.den.toArray⟩, .slice A x.1.notes.length c] ∧ x.1.notes.length ≤ c ∧ c ≤ maxLen ∧ NotesT w B A x.1.notes ∧ (0 < x.1.notes.length → A = some ⟨x.2, 0, Option.none⟩ ∧ x.2 < B ∧ Free w x.2)
abbrev EvsS (w : World) (B : Nat) (A : Option Addr) (l : List Ev) (bs : List Nat) : Prop := LT 54 3 (EvQs w B) w B A (l.zip bs)
def VcQs (w : World) (B : Nat) (x : Vc × List Nat) (cs : List Value) : Prop := ∃ A c, cs = [.string ⟨x.1.name.toArray⟩, .slice A x.1.evs.length c] ∧ x.1.evs.length ≤ c ∧ c ≤ maxLen ∧ x.2.length = x.1.evs.length ∧ EvsS w B A x.1.evs x.2
abbrev VcsS (w : World) (B : Nat) (A : Option Addr) (l : List Vc) (gs : List (List Nat)) : Prop := LT 48 2 (VcQs w B) w B A (l.zip gs)
/-- Voices whose notes may be changed in place. -/
def DueT (w : World) (A : Option Addr) (l : List Vc) (gs : List (List Nat)) : Prop := VcsS w w.heap.size A l gs ∧ gs.length = l.length
/-- Blocks in order. -/
structure SepL (lo hi : Nat) (bs : List Nat) : Prop where
 lt : bs.Pairwise (· < ·)
 low : ∀ b ∈ bs, lo ≤ b
 high : ∀ b ∈ bs, b < hi
theorem SepL.nil (lo hi : Nat) : SepL lo hi [] := ⟨List.Pairwise.nil, by simp, by simp⟩
theorem SepL.snoc {lo hi hi' b : Nat} {bs : List Nat} (h : SepL lo hi bs) (h1 : lo ≤ b) (h2 : hi ≤ b) (h3 : b < hi') : SepL lo hi' (bs ++ [b]) :=
 ⟨List.pairwise_append.2 ⟨h.lt, List.pairwise_singleton _ _, fun a ha c hc => by simp at hc; subst hc; have := h.high a ha; omega⟩, fun a ha => by
   rcases List.mem_append.1 ha with ha | ha
   ·exact h.low a ha
   ·simp at ha; subst ha; exact h1, fun a ha => by
   rcases List.mem_append.1 ha with ha | ha
   ·have := h.high a ha; omega
   ·simp at ha; subst ha; exact h3⟩
theorem SepL.app {lo lo' hi hi' : Nat} {gs : List (List Nat)} {bs : List Nat} (h : SepL lo hi gs.flatten) (h2 : SepL lo' hi' bs) (h1 : lo ≤ lo') (h3 : hi ≤ lo') (h4 : lo' ≤ hi') : SepL lo hi' (gs ++ [bs]).flatten := by
 rw [List.flatten_append]
 simp only [List.flatten_cons, List.flatten_nil, List.append_nil]
 exact ⟨List.pairwise_append.2 ⟨h.lt, h2.lt, fun a ha c hc => by have := h.high a ha; have := h2.low c hc; omega⟩, fun a ha => by
  rcases List.mem_append.1 ha with ha | ha
  ·exact h.low a ha
  ·have := h2.low a ha; omega, fun a ha => by
  rcases List.mem_append.1 ha with ha | ha
  ·have := h.high a ha; omega
  ·exact h2.high a ha⟩
theorem SepL.up {lo lo' hi hi' : Nat} {bs : List Nat} (h : SepL lo hi bs) (h1 : lo' ≤ lo) (h2 : hi ≤ hi') : SepL lo' hi' bs := ⟨h.lt, fun b hb => Nat.le_trans h1 (h.low b hb), fun b hb => Nat.lt_of_lt_of_le (h.high b hb) h2⟩
section
variable {E : List TypeId} {B B' : Nat} {w w' : World}
theorem EvQs.keep (hk : KpT E B w w') (h1 : 3 ∉ E) (h2 : 40 ∉ E) (hB : B ≤ B') {x : Ev × Nat} {cs : List Value} (h : EvQs w B x cs) : EvQs w' B' x cs := by
 obtain ⟨A, c, e, h3, h4, h5, h6⟩ := h
 exact ⟨A, c, e, h3, h4, NotesT.keep hk h1 h2 hB h5, fun h0 => ⟨(h6 h0).1, Nat.lt_of_lt_of_le (h6 h0).2.1 hB, (h6 h0).2.2.keep (hk.block _ _ (h6 h0).2.1 (h6 h0).2.2.tyb h2)⟩⟩
theorem VcQs.keep (hk : KpT E B w w') (h1 : 3 ∉ E) (h2 : 40 ∉ E) (h3 : 54 ∉ E) (hB : B ≤ B') {x : Vc × List Nat} {cs : List Value} (h : VcQs w B x cs) : VcQs w' B' x cs := by
 obtain ⟨A, c, e, h4, h5, h6, h7⟩ := h
 exact ⟨A, c, e, h4, h5, h6, LT.keep h7 hk h3 hB fun _ _ _ h => h.keep hk h1 h2 hB⟩
theorem DueT.keep {A : Option Addr} {l : List Vc} {gs : List (List Nat)} (h : DueT w A l gs) (hk : KpT E w.heap.size w w') (h1 : 3 ∉ E) (h2 : 40 ∉ E) (h3 : 54 ∉ E) (h4 : 48 ∉ E) : DueT w' A l gs :=
 ⟨LT.keep h.1 hk h4 hk.size fun _ _ _ h => h.keep hk h1 h2 h3 hk.size, h.2⟩
theorem DueT.lift {A : Option Addr} {l : List Vc} {gs : List (List Nat)} (h : DueT w A l gs) (hb : Below w.heap.size w w') : DueT w' A l gs := h.keep (E := []) (KpT.of_below hb) (by simp) (by simp) (by simp) (by simp)
end
/-- Lists that grow, with the blocks of the notes. -/
def EvOs (w : World) (base : Nat) (v : Value) (l : List Ev) (bs : List Nat) : Prop := ∃ css, LO 54 3 (EvQs w w.heap.size) w base v (l.zip bs) css ∧ bs.length = l.length
def VcOs (w : World) (base : Nat) (v : Value) (l : List Vc) (gs : List (List Nat)) : Prop := ∃ css, LO 48 2 (VcQs w w.heap.size) w base v (l.zip gs) css ∧ gs.length = l.length
theorem EvOs.nil (w : World) (base : Nat) : EvOs w base (.slice Option.none 0 0) [] [] := ⟨[], LO.nil _ _, rfl⟩
theorem VcOs.nil (w : World) (base : Nat) : VcOs w base (.slice Option.none 0 0) [] [] := ⟨[], LO.nil _ _, rfl⟩
theorem zip_len {α β : Type} {l : List α} {m : List β} (h : m.length = l.length) : (l.zip m).length = l.length := by rw [List.length_zip, h, Nat.min_self]
theorem EvOs.shape {w : World} {base : Nat} {v : Value} {l : List Ev} {bs : List Nat} (h : EvOs w base v l bs) : ∃ A c, v = .slice A l.length c ∧ l.length ≤ c ∧ c ≤ maxLen ∧ EvsS w w.heap.size A l bs ∧ bs.length = l.length := by
 obtain ⟨css, h, h2⟩ := h
 obtain ⟨A, c, e, h3, h4, h5⟩ := h.shape
 rw [zip_len h2] at e h3
 exact ⟨A, c, e, h3, h4, h5, h2⟩
theorem VcOs.shape {w : World} {base : Nat} {v : Value} {l : List Vc} {gs : List (List Nat)} (h : VcOs w base v l gs) : ∃ A c, v = .slice A l.length c ∧ l.length ≤ c ∧ c ≤ maxLen ∧ VcsS w w.heap.size A l gs ∧ gs.length = l.length := by
 obtain ⟨css, h, h2⟩ := h
 obtain ⟨A, c, e, h3, h4, h5⟩ := h.shape
 rw [zip_len h2] at e h3
 exact ⟨A, c, e, h3, h4, h5, h2⟩
theorem EvOs.below {w w' : World} {base : Nat} {v : Value} {l : List Ev} {bs : List Nat} (h : EvOs w base v l bs) (hb : Below w.heap.size w w') : EvOs w' base v l bs := by
 obtain ⟨css, h, h2⟩ := h
 exact ⟨css, h.below hb fun _ _ _ hq => hq.keep (E := []) (KpT.of_below hb) (by simp) (by simp) hb.size, h2⟩
theorem VcOs.below {w w' : World} {base : Nat} {v : Value} {l : List Vc} {gs : List (List Nat)} (h : VcOs w base v l gs) (hb : Below w.heap.size w w') : VcOs w' base v l gs := by
 obtain ⟨css, h, h2⟩ := h
 exact ⟨css, h.below hb fun _ _ _ hq => hq.keep (E := []) (KpT.of_below hb) (by simp) (by simp) (by simp) hb.size, h2⟩
theorem LO.zip {α β : Type} {T : TypeId} {s base : Nat} {Q : α × β → List Value → Prop} {w : World} {v : Value} {l : List α} {m : List β} {x : α} {y : β} {css : List (List Value)} (h : LO T s Q w base v (l.zip m ++ [(x, y)]) css) (hl : l.length = m.length) : LO T s Q w base v ((l ++ [x]).zip (m ++ [y])) css := by
 rw [List.zip_append hl]
 exact h
theorem NtO.shape_sep {w : World} {XB : Nat} {v : Value} {l : List (List Int)} (h : NtO w (XB + 1) v l) (hX : XB < w.heap.size) : ∃ A c b, v = .slice A l.length c ∧ l.length ≤ c ∧ c ≤ maxLen ∧ NotesT w w.heap.size A l ∧ (0 < l.length → A = some ⟨b, 0, Option.none⟩ ∧ b < w.heap.size ∧ Free w b) ∧ XB ≤ b ∧ b < w.heap.size := by
 obtain ⟨css, h⟩ := h
 obtain ⟨A, c, rfl, h1, h2, h3⟩ := h.shape
 by_cases h0 : 0 < l.length
 ·rcases h.own.2 with ⟨_, h4⟩ | ⟨g, cap, cur, e, _, hg4, _⟩
  ·omega
  ·have hg := h.lt g (by rw [e]; rfl)
   injection e with e _ _
   exact ⟨A, c, g, rfl, h1, h2, h3, fun _ => ⟨e, hg.2, cur, hg4⟩, by omega, hg.2⟩
 ·exact ⟨A, c, XB, rfl, h1, h2, h3, fun h => absurd h h0, Nat.le_refl _, hX⟩

set_option maxRecDepth 100000 in
set_option maxHeartbeats 8000000 in
theorem make48_sep (n : Nat) (v : Value) (l : List (List Bt)) (w : World) (hS : Std w) (hn : n ≤ 255) (hv : PlA w v l) (hf : fitsPl l = true) :
  Calls Tryz.prog 11 #[.agg #[.int .u8 n, v]] w fun e w' => (∃ pv A c γs, e = .returned (.agg #[pv, .slice A (makeSc n l).voices.length c]) ∧ (makeSc n l).voices.length ≤ c ∧ c ≤ maxLen ∧ IRow w' w'.heap.size pv (makeSc n l).primes ∧ DueT w' A (makeSc n l).voices γs ∧ SepL w.heap.size w'.heap.size γs.flatten) ∧ Below w.heap.size w w' := by
 obtain ⟨i0, hi0, hz0, hz1, hz2⟩ := info_parts Tryz.info_row
 obtain ⟨je, hie, gz0, gz1, gz2⟩ := info_parts Tryz.info_event48
 obtain ⟨kv, hiv, fz0, fz1, fz2⟩ := info_parts Tryz.info_voice48
 obtain ⟨h3, hmem⟩ := fits_mem hf
 have HM : Box (∀ i : Nat, (l[i]?.getD []).length ≤ 6 ∧ ∀ b ∈ l[i]?.getD [], b.notes.length ≤ 4) := ⟨hmem⟩
 have HP4 : Box ((primesOf n).length ≤ 4) := ⟨(primesOf_ok n).2⟩
 have HMK : Box (makeSc n l = ⟨primesOf n, makeTo (primesOf n) l l.length⟩) := ⟨by unfold makeSc; rw [Nat.min_eq_left h3]⟩
 have HPR := Lib.hid (fun W => primesT_any n W hn)
 have HS := Lib.hid hS
 generalize makeSc n l = out at *
 generalize primesOf n = p at *
 obtain ⟨A, c, rfl, hlc, hcm, hl⟩ := hv
 obtain ⟨W0, hW0⟩ : ∃ W0, W0 = (w.alloc (.cells #[.int .u8 n, .slice A l.length c] 39)).alloc (.cells #[.slice Option.none 0 0, .slice Option.none 0 0] 29) := ⟨_, rfl⟩
 have hb0 : Below w.heap.size w W0 := by rw [hW0]; exact ((Below.refl _ _).alloc (Nat.le_refl _) _).alloc (by simp) _
 have HPB : Hid (Cells W0 w.heap.size 39 [.int .u8 n, .slice A l.length c]) := Lib.hid (by rw [hW0]; exact (Cells.new w 39 #[.int .u8 n, .slice A l.length c]).alloc _)
 have HRB : Hid (Cells W0 (w.heap.size + 1) 29 [.slice Option.none 0 0, .slice Option.none 0 0]) := Lib.hid (by
  have h := Cells.new (w.alloc (.cells #[.int .u8 n, .slice A l.length c] 39)) 29 #[.slice Option.none 0 0, .slice Option.none 0 0]
  rw [World.size_alloc] at h
  rw [hW0]
  exact h)
 have HB0 := Lib.hid hb0
 have HL0 := Lib.hid (hl.lift hb0 (fun _ _ _ h => h.lift hb0))
 have hw0 := hb0.size
 unfold maxLen at hcm
 obtain ⟨z0, z1⟩ := cel2 HPB.out
 clear hl hmem hf hb0 hS
 go_enter Tryz.func11, Tryz.ntmps11
 go_upto_region 1 with (fail)
 rw [← hW0]
 clear hW0
 go_wp2_with fail
 refine (HPR.out _).mono ?_
 rintro e w1 ⟨⟨AP, cp, rfl, htr⟩, hb1⟩
 have hw1 := hb1.size
 obtain ⟨W1, hW1⟩ : ∃ W1, W1 = w1.alloc (.cells #[.slice AP p.length cp, .slice Option.none 0 0] 29) := ⟨_, rfl⟩
 have hb2 : Below w1.heap.size w1 W1 := by rw [hW1]; exact (Below.refl _ _).alloc (Nat.le_refl _) _
 obtain ⟨SB, hSB⟩ : ∃ SB, SB = w1.heap.size := ⟨_, rfl⟩
 have HSB : Hid (Cells W1 SB 29 [.slice AP p.length cp, .slice Option.none 0 0]) := Lib.hid (by rw [hW1, hSB]; exact Cells.new w1 29 #[.slice AP p.length cp, .slice Option.none 0 0])
 have HIP := Lib.hid (IRow.of_trow htr)
 rw [← hSB] at HIP
 have HB1 := Lib.hid (HB0.out.trans (hb1.mono hw0))
 have HPB1 := Lib.hid (HPB.out.below hb1 HPB.out.lt)
 have HRB1 := Lib.hid (HRB.out.below hb1 HRB.out.lt)
 have HL1 := Lib.hid (HL0.out.lift hb1 (fun _ _ _ h => h.lift hb1))
 have HBS : Hid (Below SB w1 W1) := Lib.hid (by rw [hSB]; exact hb2)
 have hpl := HP4.out
 have HSBE : Box (SB = w1.heap.size) := ⟨hSB⟩
 have hSBw : w.heap.size ≤ SB := by omega
 clear htr hb1 hb2 HPB HRB HL0 HPR z0 z1 HB0
 go_upto_region 3 with (fail)
 rw [← hW1, ← hSB]
 clear hW1 hSB
 go_loopw [4] (fun i wr => ∃ (k : Nat) (vv : Value) (γs : List (List Nat)), k ≤ l.length ∧ i = .int .i64 k ∧ Cells wr SB 29 [.slice AP p.length cp, vv] ∧ VcOs wr (SB + 1) vv (makeTo p l k) γs ∧ SepL SB wr.heap.size γs.flatten ∧ Below SB w1 wr) (fun i _ => l.length - (intOf i).toNat)
 case atStart => exact ⟨0, _, [], Nat.zero_le _, rfl, HSB.out, VcOs.nil _ _, SepL.nil _ _, HBS.out⟩
 case round =>
  clear HSB HBS
  obtain ⟨k, vv, γs, hk, rfl, hsb, hvc, hsp, hbs⟩ := hrel
  have HSP := Box.mk hsp
  clear hsp
  have HPR := Lib.hid (HPB1.out.below (HSBE.out ▸ hbs) HPB1.out.lt)
  obtain ⟨z0, z1⟩ := cel2 HPR.out
  by_cases hlt : k < l.length
  ·have hbw1 : Below w1.heap.size w1 wr := HSBE.out ▸ hbs
   obtain ⟨b1, o1, A1, c1, rfl, hb1, q0, h1c, h1m, h1l⟩ := HL1.out.voice hlt
   have HL2 := Lib.hid h1l
   have HQ0 := Lib.hid q0
   have hgd : l[k]?.getD [] = l[k]'hlt := by rw [List.getElem?_eq_getElem hlt]; rfl
   obtain ⟨hu6, hu4⟩ := HM.out k
   rw [hgd] at hu6 hu4
   have HU4 : Box (∀ b ∈ l[k]'hlt, b.notes.length ≤ 4) := ⟨hu4⟩
   have HNX : Box (makeTo p l (k + 1) = makeTo p l k ++ [voiceE p.length k (l[k]'hlt)]) := ⟨by rw [makeTo, hgd]⟩
   have hk3 : (k : Int) < 3 := by omega
   have hk0 : (0 : Int) ≤ (k : Int) := by omega
   have hkl : (k : Int) < (l.length : Int) := by omega
   have HVC := Lib.hid hvc
   have HSBr := Lib.hid hsb
   have HBW1 := Lib.hid hbw1
   have HBSr := Lib.hid hbs
   have hsbl := hsb.lt
   clear hgd hu4 h1l hbw1 hsb hvc hbs q0
   generalize l[k]'hlt = u at *
   unfold maxLen at h1m
   obtain ⟨W2, hW2⟩ : ∃ W2, W2 = wr.alloc (.cells #[.string ⟨#[97]⟩, .string ⟨#[66, 97, 115, 115, 95, 50]⟩, .string ⟨#[99, 35, 39]⟩] 9) := ⟨_, rfl⟩
   have hbW2 : Below wr.heap.size wr W2 := by rw [hW2]; exact (Below.refl _ _).alloc (Nat.le_refl _) _
   have hnm : W2.cell? ⟨wr.heap.size, k, Option.none⟩ = some (.string ⟨(nameOf k).toArray⟩) := by
    have hc := Cells.new wr 9 #[.string ⟨#[97]⟩, .string ⟨#[66, 97, 115, 115, 95, 50]⟩, .string ⟨#[99, 35, 39]⟩]
    rw [hW2, hc.cell k]
    match k, hlt with
    | 0, _ => rfl
    | 1, _ => rfl
    | 2, _ => rfl
    | k + 3, h => omega
   obtain ⟨VB, hVB⟩ : ∃ VB, VB = W2.heap.size := ⟨_, rfl⟩
   obtain ⟨W3, hW3⟩ : ∃ W3, W3 = W2.alloc (.cells #[.string ⟨(nameOf k).toArray⟩, .slice Option.none 0 0] 48) := ⟨_, rfl⟩
   have HVB : Hid (Cells W3 VB 48 [.string ⟨(nameOf k).toArray⟩, .slice Option.none 0 0]) := Lib.hid (by rw [hW3, hVB]; exact Cells.new W2 48 #[.string ⟨(nameOf k).toArray⟩, .slice Option.none 0 0])
   have HBV : Hid (Below VB W2 W3) := Lib.hid (by rw [hW3, hVB]; exact (Below.refl _ _).alloc (Nat.le_refl _) _)
   have HVBE : Box (VB = W2.heap.size) := ⟨hVB⟩
   have HW1 := Lib.hid (HBW1.out.trans (hbW2.mono HBW1.out.size))
   have HSB2 := Lib.hid (HSBr.out.below hbW2 HSBr.out.lt)
   have HBW2 := Lib.hid hbW2
   have hVSB : SB < VB := by have := hbW2.size; omega
   obtain ⟨nmk, hnmk⟩ : ∃ nmk, nameOf k = nmk := ⟨_, rfl⟩
   rw [hnmk] at hnm hW3 HVB
   have HNMK : Box (nameOf k = nmk) := ⟨hnmk⟩
   clear hnmk hbW2
   have hVB2 : VB = wr.heap.size + 1 := by rw [hVB, hW2]; simp
   have hnm2 := hnm
   rw [hW2] at hnm2
   go_upto_region 6 with (fail)
   rw [← hW2]
   rw [← hW3, ← hVB2]
   clear hW3 hW2 hVB hVB2 hnm hnm2 z0 z1
   go_wp2_with fail
   go_loopw [6] (fun i wx => ∃ (j : Nat) (ev : Value) (βs : List Nat), j ≤ u.length ∧ i = .int .i64 j ∧ Cells wx VB 48 [.string ⟨nmk.toArray⟩, ev] ∧ EvOs wx (VB + 1) ev ((u.take j).map (beatE p.length)) βs ∧ SepL VB wx.heap.size βs ∧ Below VB W2 wx) (fun i _ => u.length - (intOf i).toNat)
   case atStart => exact ⟨0, _, [], Nat.zero_le _, rfl, HVB.out, EvOs.nil _ _, SepL.nil _ _, HBV.out⟩
   case round =>
    rename World => wx
    clear HVB HBV
    obtain ⟨j, ev, βs, hj, rfl, hvb, hevo, hsp2, hbv⟩ := hrel
    have HSP2 := Box.mk hsp2
    clear hsp2
    have hbx2 : Below W2.heap.size W2 wx := HVBE.out ▸ hbv
    have HB1x := Lib.hid (HW1.out.trans (hbx2.mono HW1.out.size))
    have HPBx := Lib.hid (HPB1.out.below HB1x.out HPB1.out.lt)
    obtain ⟨z0, z1⟩ := cel2 HPBx.out
    have q0 := keep_cell HQ0.out HB1x.out
    by_cases hjl : j < u.length
    ·obtain ⟨b2, o2, A2, c2, rfl, hb2, r0, r1, hlen, h2c, h2m, h2l⟩ := HL2.out.beat hjl
     have HL3 := Lib.hid h2l
     have hn4 := HU4.out _ (List.getElem_mem hjl)
     have HNE : Box ((u.take (j + 1)).map (beatE p.length) = (u.take j).map (beatE p.length) ++ [beatE p.length (u[j]'hjl)]) := ⟨by rw [List.take_succ_eq_append_getElem hjl, List.map_append]; rfl⟩
     replace r0 := keep_cell r0 HB1x.out
     replace r1 := keep_cell r1 HB1x.out
     have HVBx := Lib.hid hvb
     have HEVx := Lib.hid hevo
     have HBVx := Lib.hid hbv
     have hvbl := hvb.lt
     clear h2l hvb hevo hbv hbx2
     generalize u[j]'hjl = bt at *
     obtain ⟨len, ns⟩ := bt
     dsimp only at *
     unfold maxLen at h2m
     have hji : (j : Int) < (u.length : Int) := by omega
     have hj0 : (0 : Int) ≤ (j : Int) := by omega
     obtain ⟨BB, hBB⟩ : ∃ BB, BB = wx.heap.size := ⟨_, rfl⟩
     obtain ⟨W4, hW4⟩ : ∃ W4, W4 = wx.alloc (.cells #[.int .u8 (len : Nat), .slice A2 ns.length c2] 104) := ⟨_, rfl⟩
     have hba : Below wx.heap.size wx W4 := by rw [hW4]; exact (Below.refl _ _).alloc (Nat.le_refl _) _
     have HBB : Hid (Cells W4 BB 104 [.int .u8 (len : Nat), .slice A2 ns.length c2]) := Lib.hid (by rw [hW4, hBB]; exact Cells.new wx 104 #[.int .u8 (len : Nat), .slice A2 ns.length c2])
     have HX4 := Lib.hid hba
     obtain ⟨y0, y1⟩ := cel2 HBB.out
     clear hba
     go_upto_region 10 with (fail)
     rw [← hW4, ← hBB]
     clear hW4 hBB r0 r1 q0 z0 z1
     have hcst : ((1 + len % 24 : Nat) : Int) = 1 + (len : Int) % 24 := by omega
     have HO : Hid (∀ W, Std W → Calls Tryz.prog 36 #[.int .i64 (1 + (len : Int) % 24), .int .i64 12] W fun e w' => e = .returned (.tuple #[.agg #[.string ⟨(t12n (1 + len % 24)).toArray⟩, .string ⟨(t12d (1 + len % 24)).toArray⟩], .int .i64 0]) ∧ Below W.heap.size W w') := Lib.hid (fun W h => by
      have h1 := fracOf_any (1 + (len : Int) % 24) 12 W h (by omega) (by decide) (by decide)
      unfold t12n t12d
      rw [hcst]
      exact h1)
     have HSW4 := Lib.hid (HS.out.below (HB1.out.trans ((HB1x.out.trans (HX4.out.mono HB1x.out.size)).mono HB1.out.size)) (Nat.le_refl _))
     have hw1 : IntKind.i64.wrap ((len : Int) % 24) = (len : Int) % 24 := IntWalk.i64_in _ (by omega)
     have hw2 : IntKind.i64.wrap (1 + (len : Int) % 24) = 1 + (len : Int) % 24 := IntWalk.i64_in _ (by omega)
     have hw3 : IntKind.i64.wrap (len : Int) = (len : Int) := IntWalk.i64_in _ (by omega)
     have HEB : Box (beatE p.length ⟨len, ns⟩ = ⟨t12n (1 + len % 24), t12d (1 + len % 24), ns.map fun x => ivlTo x p.length⟩) := ⟨rfl⟩
     clear hcst
     generalize beatE p.length ⟨len, ns⟩ = be at *
     generalize t12n (1 + len % 24) = tn at *
     generalize t12d (1 + len % 24) = td at *
     go_wp2_with fail
     refine (HO.out _ HSW4.out).mono ?_
     rintro e w5 ⟨rfl, hb5⟩
     obtain ⟨W5, hW5⟩ : ∃ W5, W5 = w5.alloc (.cells #[.string ⟨tn.toArray⟩, .string ⟨td.toArray⟩] 51) := ⟨_, rfl⟩
     have hba5 : Below w5.heap.size w5 W5 := by rw [hW5]; exact (Below.refl _ _).alloc (Nat.le_refl _) _
     obtain ⟨LB, hLB⟩ : ∃ LB, LB = w5.heap.size := ⟨_, rfl⟩
     have HLB : Hid (Cells W5 LB 51 [.string ⟨tn.toArray⟩, .string ⟨td.toArray⟩]) := Lib.hid (by rw [hW5, hLB]; exact Cells.new w5 51 #[.string ⟨tn.toArray⟩, .string ⟨td.toArray⟩])
     have HX5 := Lib.hid (HX4.out.trans ((hb5.trans (hba5.mono hb5.size)).mono HX4.out.size))
     have HBB5 := Lib.hid (HBB.out.below (hb5.trans (hba5.mono hb5.size)) HBB.out.lt)
     obtain ⟨l0, l1⟩ := cel2 HLB.out
     clear hb5 hba5 HBB HX4 HSW4 HO y0 y1 hw1 hw2 hw3
     go_upto_region 11 with (fail)
     rw [← hW5, ← hLB]
     clear hW5 hLB
     obtain ⟨XB, hXB⟩ : ∃ XB, XB = W5.heap.size := ⟨_, rfl⟩
     obtain ⟨W6, hW6⟩ : ∃ W6, W6 = W5.alloc (.cells #[.string ⟨tn.toArray⟩, .string ⟨td.toArray⟩, .slice Option.none 0 0] 54) := ⟨_, rfl⟩
     have HXB : Hid (Cells W6 XB 54 [.string ⟨tn.toArray⟩, .string ⟨td.toArray⟩, .slice Option.none 0 0]) := Lib.hid (by rw [hW6, hXB]; exact Cells.new W5 54 #[.string ⟨tn.toArray⟩, .string ⟨td.toArray⟩, .slice Option.none 0 0])
     have HBX : Hid (Below XB W5 W6) := Lib.hid (by rw [hW6, hXB]; exact (Below.refl _ _).alloc (Nat.le_refl _) _)
     have HXBE : Box (XB = W5.heap.size) := ⟨hXB⟩
     have hVX : VB < XB := by have := HX5.out.size; omega
     go_upto_region 12 with (fail)
     rw [← hW6, ← hXB]
     clear hW6 hXB l0 l1 HLB
     go_wp2_with fail
     go_loopw [11] (fun i wy => ∃ (m : Nat) (nv : Value), m ≤ ns.length ∧ i = .int .i64 m ∧ Cells wy XB 54 [.string ⟨tn.toArray⟩, .string ⟨td.toArray⟩, nv] ∧ NtO wy (XB + 1) nv ((ns.take m).map fun x => ivlTo x p.length) ∧ Below XB W5 wy) (fun i _ => ns.length - (intOf i).toNat)
     case atStart => exact ⟨0, _, Nat.zero_le _, rfl, HXB.out, NtO.nil _ _, HBX.out⟩
     case round =>
      rename World => wy
      clear HXB HBX
      obtain ⟨m, nv, hm, rfl, hxb, hnt, hbx⟩ := hrel
      have hb5y : Below W5.heap.size W5 wy := HXBE.out ▸ hbx
      have HXY := Lib.hid (HX5.out.trans (hb5y.mono HX5.out.size))
      have HBBy := Lib.hid (HBB5.out.below hb5y HBB5.out.lt)
      obtain ⟨y0, y1⟩ := cel2 HBBy.out
      have HB1y := Lib.hid (HB1x.out.trans (HXY.out.mono HB1x.out.size))
      by_cases hml : m < ns.length
      ·obtain ⟨b3, o3, a0, a1, a2, a3, rfl, hb3, hnm, hf4, t0, t1, t2, t3⟩ := HL3.out.note hml
       have HNN : Box ((ns.take (m + 1)).map (fun x => ivlTo x p.length) = (ns.take m).map (fun x => ivlTo x p.length) ++ [ivlTo [a0, a1, a2, a3] p.length]) := ⟨by rw [List.take_succ_eq_append_getElem hml, List.map_append, hnm]; rfl⟩
       have HNL : Box (((ns.take m).map (fun x => ivlTo x p.length)).length = m) := ⟨by rw [List.length_map, List.length_take]; omega⟩
       replace t0 := keep_cell t0 HB1y.out
       replace t1 := keep_cell t1 HB1y.out
       replace t2 := keep_cell t2 HB1y.out
       replace t3 := keep_cell t3 HB1y.out
       have hSB4 := HSB2.out.below ((HVBE.out ▸ HBVx.out : Below W2.heap.size W2 wx).trans (HXY.out.mono (HVBE.out ▸ HBVx.out : Below W2.heap.size W2 wx).size)) HSB2.out.lt
       obtain ⟨s0, s1⟩ := cel2 hSB4
       obtain ⟨x0, x1, x2⟩ := cel3 hxb
       have HXBy := Lib.hid hxb
       have HNTy := Lib.hid hnt
       have HBXy := Lib.hid hbx
       have HIV := Lib.hid (fun W => intervalT_any AP cp p.length a0 a1 a2 a3 W hpl hf4)
       have hmi : (m : Int) < (ns.length : Int) := by omega
       have hm0 : (0 : Int) ≤ (m : Int) := by omega
       have hxbl := hxb.lt
       clear hnm hf4 hxb hnt hbx hb5y
       generalize (ns.take m).map (fun x => ivlTo x p.length) = nl at *
       generalize ivlTo [a0, a1, a2, a3] p.length = iv at *
       go_wp2_with fail
       have hB : Below wy.heap.size wy wy.drew := below_to_drew (Below.refl _ _)
       obtain ⟨css, hlo⟩ := HNTy.out
       have hown := hlo.own
       rw [HNL.out] at hown
       have hws : XB < wy.heap.size := hxbl
       go_region_law (first
        | (refine step_append_lies _ (by rfl) _ _ _ (by rfl) (XB + 1) 40 i0 _ 1 24 Tryz.underlying52 hi0 hz0 hz1 hz2 rfl (by omega) nv m css.flatten (by rfl) (hownA.alloc _) ⟨wA.heap.size, 0, Option.none⟩ 1 1 [.slice A9 iv.length c9] (by rfl) (by rfl) (World.news_of_block (cs := #[.slice A9 iv.length c9]) (t := 40) (fr := (0, 0)) (heap_alloc_new wA _)) (by simp [Value.oneCell']) (by omega) (by unfold maxLen; omega) (by omega) (by simp; omega) (wA.heap.size + 1) (by simp) ?_; intro gB cB wB hownB hgB hatB hltB; obtain ⟨hxB, hloB, hxN, hbN⟩ := cell_grow (j := 2) (Q := fun w => NoteQ w w.heap.size) (x := iv) (cs := [.slice A9 iv.length c9]) (fun hk h => h.keep hk (by decide) hk.size) hloA hxA (by decide) ⟨_, rfl, IRow.of_trow htr⟩ rfl hgB (by rw [HNL.out]; exact hownB); have fB := hxB.free 2; obtain ⟨_, _, sB⟩ := cel3 hxB)
        | (go_simp; go_at_call 37; (with_reducible refine (HIV.out _).mono ?_); rintro e wA ⟨⟨A9, c9, rfl, htr⟩, hbk⟩; replace hB := hB.trans (hbk.mono hB.size); clear hbk; have hxA := HXBy.out.below hB HXBy.out.lt; obtain ⟨v0, v1, v2⟩ := cel3 hxA; obtain ⟨v3, v4, v5⟩ := cel3 (hxA.alloc (.cells #[.slice A9 iv.length c9] 40)); have hloA := hlo.below hB (fun _ _ _ h => NoteQ.keep (E := []) (KpT.of_below hB) (by simp) hB.size h); have hownA := hloA.own; rw [HNL.out] at hownA; have hwA := hB.size))
       all_goals
        have HXN := Lib.hid hxN
        have HLN := Lib.hid hloB
        have HBN := Lib.hid (HBXy.out.trans ((hB.mono (Nat.le_of_lt hws)).trans (hbN XB (Nat.le_succ _) (Nat.le_refl _) (by omega))))
        clear hxB hloB hxN hbN fB sB hownB hgB hatB hltB hB hxA hloA hownA v0 v1 v2 v3 v4 v5 s0 s1 x0 x1 x2 y0 y1 t0 t1 t2 t3
        go_wp2_with fail
        go_roundw
        case rel => exact ⟨m + 1, _, by omega, by go_num, HXN.out, ⟨_, by rw [HNN.out]; exact HLN.out⟩, HBN.out⟩
        case measure => simp [intOf]; omega
      ·obtain rfl : m = ns.length := by omega
       rw [List.take_length] at hnt
       obtain ⟨AN, cN, β, rfl, hN1, hN2, hN3, hN4, hN5, hN6⟩ := NtO.shape_sep hnt hxb.lt
       have HBE := Box.mk (And.intro hN5 hN6)
       clear hN5 hN6
       have hvby := HVBx.out.below HXY.out hvbl
       obtain ⟨css, hlo⟩ := HEVx.out.below HXY.out
       have hzl := hlo.2
       replace hlo := hlo.1
       have HEL0 : Box (((u.take j).map (beatE p.length)).length = j) := ⟨by rw [List.length_map, List.length_take]; omega⟩
       have HBL : Box (βs.length = j) := ⟨by rw [← HEL0.out]; exact hzl⟩
       have HEL : Box ((((u.take j).map (beatE p.length)).zip βs).length = j) := ⟨by rw [List.length_zip, HEL0.out, HBL.out]; omega⟩
       clear hzl
       have hown := hlo.own
       rw [HEL.out] at hown
       have hqe : EvQs wy wy.heap.size (be, β) [.string ⟨tn.toArray⟩, .string ⟨td.toArray⟩, .slice AN (ns.map fun x => ivlTo x p.length).length cN] := by
        rw [HEB.out]
        exact ⟨AN, cN, rfl, hN1, hN2, hN3, hN4⟩
       have HQE := Lib.hid hqe
       have HLOv := Lib.hid hlo
       have HVy := Lib.hid hvby
       obtain ⟨s0, s1⟩ := cel2 hvby
       obtain ⟨x0, x1, x2⟩ := cel3 hxb
       have hx1 := hxb.alloc (.cells #[.string ⟨tn.toArray⟩, .string ⟨td.toArray⟩, .slice AN (ns.map fun x => ivlTo x p.length).length cN] 54)
       have hvl1 := hvby.lt
       have HBVy := Lib.hid (HBVx.out.trans (HXY.out.mono (Nat.le_of_lt hvbl)))
       have hvw : VB < wy.heap.size := hvl1
       clear hxb hnt hbx hb5y hN1 hN2 hN3 hN4 hlo hvby hqe hx1
       generalize (ns.map fun x => ivlTo x p.length).length = nsl at *
       go_wp2_with (at_builtin; refine wpList_append_own _ rfl _ _ _ rfl (VB + 1) 54 je (.agg #[.string ⟨#[]⟩, .string ⟨#[]⟩, .slice Option.none 0 0]) 3 56 Tryz.underlying46 hie gz0 gz1 gz2 rfl (by decide) _ _ _ rfl (hown.alloc _) ⟨wy.heap.size, 0, Option.none⟩ 1 1 [.string ⟨tn.toArray⟩, .string ⟨td.toArray⟩, .slice AN nsl cN] rfl rfl (World.news_of_block (cs := #[.string ⟨tn.toArray⟩, .string ⟨td.toArray⟩, .slice AN nsl cN]) (t := 54) (fr := (0, 0)) (heap_alloc_new wy _)) (by simp [Value.oneCell']) (by unfold maxLen; omega) (by omega) (by simp; omega) ?_; intro v9 w9 hown9 hg9 _; obtain ⟨g9, c9, rfl, _, _⟩ := hown9.form (by omega); obtain ⟨hxB, hloB, hxN, hbN⟩ := cell_grow (j := 1) (Q := fun w => EvQs w w.heap.size) (x := (be, β)) (fun hk h => h.keep hk (by decide) (by decide) hk.size) HLOv.out HVy.out (by decide) HQE.out rfl hg9 (by rw [HEL.out]; exact hown9); have fB := hxB.free 1; obtain ⟨_, sB⟩ := cel2 hxB)
       have HXN := Lib.hid hxN
       have HLN := Lib.hid hloB
       have HSZ := Box.mk (hbN VB (Nat.le_succ _) (Nat.le_refl _) (Nat.le_of_lt hvw)).size
       have HBN := Lib.hid (HBVy.out.trans (hbN VB (Nat.le_succ _) (Nat.le_refl _) (Nat.le_of_lt hvw)))
       clear hxB hloB hxN hbN fB sB
       go_roundw
       case rel =>
        have hl1 : ((u.take j).map (beatE p.length)).length = βs.length := by rw [HEL0.out, HBL.out]
        have hz := HLN.out.zip hl1
        rw [← HNE.out] at hz
        have hl2 : (βs ++ [β]).length = ((u.take (j + 1)).map (beatE p.length)).length := by rw [HNE.out, List.length_append, List.length_append, hl1, List.length_singleton, List.length_singleton]
        have hs2 := HSP2.out.snoc (Nat.le_trans (Nat.le_of_lt hVX) HBE.out.1) (Nat.le_trans (by rw [HXBE.out]; exact HX5.out.size) HBE.out.1) (Nat.lt_of_lt_of_le HBE.out.2 HSZ.out)
        exact ⟨j + 1, _, βs ++ [β], by omega, by go_num, HXN.out, ⟨_, hz, hl2⟩, hs2, HBN.out⟩
       case measure => simp [intOf]; omega
    ·obtain rfl : j = u.length := by omega
     rw [List.take_length] at hevo
     obtain ⟨AE, cE, rfl, hE1, hE2, hE3, hE4⟩ := hevo.shape
     have hsbx := HSB2.out.below hbx2 HSB2.out.lt
     have hrx : Below wr.heap.size wr wx := HBW2.out.trans (hbx2.mono HBW2.out.size)
     obtain ⟨css, hlo⟩ := HVC.out.below hrx
     have hzl := hlo.2
     replace hlo := hlo.1
     have HEL0 : Box ((makeTo p l k).length = k) := ⟨makeTo_len p l k⟩
     have HBL : Box (γs.length = k) := ⟨by rw [← HEL0.out]; exact hzl⟩
     have HEL : Box (((makeTo p l k).zip γs).length = k) := ⟨by rw [List.length_zip, HEL0.out, HBL.out]; omega⟩
     clear hzl
     have HVL4 : Box (VB ≤ wx.heap.size) := ⟨Nat.le_of_lt hvb.lt⟩
     have HRS : Box (wr.heap.size ≤ VB) := ⟨by rw [HVBE.out]; exact HBW2.out.size⟩
     have hown := hlo.own
     rw [HEL.out] at hown
     have hqv : VcQs wx wx.heap.size (voiceE p.length k u, βs) [.string ⟨nmk.toArray⟩, .slice AE (u.map (beatE p.length)).length cE] := by
      unfold voiceE
      rw [HNMK.out]
      exact ⟨AE, cE, rfl, hE1, hE2, hE4, hE3⟩
     have HQV := Lib.hid hqv
     have HLOv := Lib.hid hlo
     have HSx := Lib.hid hsbx
     obtain ⟨s0, s1⟩ := cel2 hsbx
     obtain ⟨x0, x1⟩ := cel2 hvb
     have hsw : SB < wx.heap.size := hsbx.lt
     have HBSx := Lib.hid (HBSr.out.trans (hrx.mono (Nat.le_of_lt hsbl)))
     clear hvb hevo hbv hbx2 hE1 hE2 hE3 hE4 hlo hsbx hqv hrx
     generalize (u.map (beatE p.length)).length = ul at *
     go_wp2_with (at_builtin; refine wpList_append_own _ rfl _ _ _ rfl (SB + 1) 48 kv (.agg #[.string ⟨#[]⟩, .slice Option.none 0 0]) 2 40 Tryz.underlying27 hiv fz0 fz1 fz2 rfl (by decide) _ _ _ rfl (hown.alloc _) ⟨wx.heap.size, 0, Option.none⟩ 1 1 [.string ⟨nmk.toArray⟩, .slice AE ul cE] rfl rfl (World.news_of_block (cs := #[.string ⟨nmk.toArray⟩, .slice AE ul cE]) (t := 48) (fr := (0, 0)) (heap_alloc_new wx _)) (by simp [Value.oneCell']) (by unfold maxLen; omega) (by omega) (by simp; omega) ?_; intro v9 w9 hown9 hg9 _; obtain ⟨g9, c9, rfl, _, _⟩ := hown9.form (by omega); obtain ⟨hxB, hloB, hxN, hbN⟩ := cell_grow (j := 1) (Q := fun w => VcQs w w.heap.size) (x := (voiceE p.length k u, βs)) (fun hk h => h.keep hk (by decide) (by decide) (by decide) hk.size) HLOv.out HSx.out (by decide) HQV.out rfl hg9 (by rw [HEL.out]; exact hown9); have fB := hxB.free 1; obtain ⟨_, sB⟩ := cel2 hxB)
     have HXN := Lib.hid hxN
     have HLN := Lib.hid hloB
     have HSZ := Box.mk (hbN SB (Nat.le_succ _) (Nat.le_refl _) (Nat.le_of_lt hsw)).size
     have HBN := Lib.hid (HBSx.out.trans (hbN SB (Nat.le_succ _) (Nat.le_refl _) (Nat.le_of_lt hsw)))
     clear hxB hloB hxN hbN fB sB
     go_roundw
     case rel =>
      have hl1 : (makeTo p l k).length = γs.length := by rw [HEL0.out, HBL.out]
      have hz := HLN.out.zip hl1
      rw [← HNX.out] at hz
      have hl2 : (γs ++ [βs]).length = (makeTo p l (k + 1)).length := by rw [HNX.out, List.length_append, List.length_append, hl1, List.length_singleton, List.length_singleton]
      have hs2 := (HSP.out.app HSP2.out (Nat.le_of_lt hVSB) HRS.out HVL4.out).up (Nat.le_refl _) HSZ.out
      exact ⟨k + 1, _, γs ++ [βs], by omega, by go_num, HXN.out, ⟨_, hz, hl2⟩, hs2, HBN.out⟩
     case measure => simp [intOf]; omega
  ·obtain rfl : k = l.length := by omega
   have hrb := HRB1.out.below (HSBE.out ▸ hbs) HRB1.out.lt
   have y0 := hrb.free 0
   have y1 := hrb.free 1
   obtain ⟨x0, x1⟩ := cel2 hsb
   obtain ⟨AV, cV, rfl, hV1, hV2, hV3, hV4⟩ := hvc.shape
   obtain ⟨r0, r1⟩ := cel2 hrb
   have HSV := Lib.hid (And.intro (HIP.out.keep (E := []) (KpT.of_below hbs) (by simp) (Nat.le_of_lt hsb.lt)) (show DueT wr AV (makeTo p l l.length) γs from ⟨hV3, hV4⟩))
   have HVL := Box.mk (And.intro hV1 hV2)
   have HSBw : Box (w.heap.size ≤ SB) := ⟨hSBw⟩
   have HRBx := Lib.hid hrb
   have HBF := Lib.hid (HB1.out.trans ((HSBE.out ▸ hbs : Below w1.heap.size w1 wr).mono HB1.out.size))
   clear hrb hsb hvc hbs hV1 hV2 hV3 hV4
   generalize hml : (makeTo p l l.length).length = ml at *
   have HML : Box ((makeTo p l l.length).length = ml) := ⟨hml⟩
   clear hml
   go_wp2_with fail
   have hset := (HRBx.out.set 0 (.slice AP p.length cp)).set 1 (.slice AV ml cV)
   have hk : KpT [29] wr.heap.size wr ((wr.setCell ⟨w.heap.size + 1, 0, Option.none⟩ (.slice AP p.length cp)).setCell ⟨w.heap.size + 1, 1, Option.none⟩ (.slice AV ml cV)) := ((KpT.refl _ _ _).setCell (TyB.of_cells HRBx.out) (by simp) _).setCell (TyB.of_cells (HRBx.out.set 0 (.slice AP p.length cp))) (by simp) _
   obtain ⟨w0, w1'⟩ := cel2 hset
   refine bodyPost_ret (v := .agg #[.slice AP p.length cp, .slice AV ml cV]) (by simp (maxDischargeDepth := 10) [results, Tryz.results11, go_sem, w0, w1']) rfl ⟨⟨.slice AP p.length cp, AV, cV, γs, ?_, ?_⟩, ?_⟩
   ·rw [HMK.out, HML.out]
   ·rw [HMK.out]
    exact ⟨by show (makeTo p l l.length).length ≤ cV; rw [HML.out]; exact HVL.out.1, HVL.out.2, HSV.out.1.keep hk (by decide) hk.size, HSV.out.2.keep hk (by decide) (by decide) (by decide) (by decide), HSP.out.up HSBw.out hk.size⟩
   ·exact (HBF.out.setCell (p := ⟨w.heap.size + 1, 0, Option.none⟩) (Nat.le_succ _) _).setCell (p := ⟨w.heap.size + 1, 1, Option.none⟩) (Nat.le_succ _) _

end Go.Proofs.YtaaeekahhhookaaGreatDoor

namespace Go.Proofs.YtaaeekahhhookaaGreatDoor
open Go.RowKit Go.Lib

theorem zip_get {α β : Type} {l : List α} {m : List β} {k : Nat} {x : α} {y : β} (h1 : l[k]? = some x) (h2 : m[k]? = some y) : (l.zip m)[k]? = some (x, y) := List.getElem?_zip_eq_some.2 ⟨h1, h2⟩
theorem zip_some {α β : Type} {l : List α} {m : List β} {k : Nat} {z : α × β} (h : (l.zip m)[k]? = some z) : l[k]? = some z.1 ∧ m[k]? = some z.2 := by
 obtain ⟨x, y⟩ := z
 exact List.getElem?_zip_eq_some.1 h
theorem TyB.set {w : World} {b : Nat} {T : TypeId} (h : TyB w b T) (p : Addr) (u : Value) : TyB (w.setCell p u) b T := by
 obtain ⟨cur, f, h⟩ := h
 unfold TyB
 simp only [World.setCell, Array.getElem?_modify]
 by_cases e : p.block = b
 ·rw [if_pos e, h]
  exact ⟨_, _, rfl⟩
 ·rw [if_neg e]
  exact ⟨cur, f, h⟩
theorem Free.set {w : World} {b : Nat} (h : Free w b) (p : Addr) (u : Value) : Free (w.setCell p u) b := by
 obtain ⟨cur, h⟩ := h
 unfold Free
 simp only [World.setCell, Array.getElem?_modify]
 by_cases e : p.block = b
 ·rw [if_pos e, h]
  exact ⟨_, rfl⟩
 ·rw [if_neg e]
  exact ⟨cur, h⟩
/-- The notes of an event in another block stay. -/
theorem NotesT.off {w : World} {B β n : Nat} {v : Value} {A : Option Addr} {l : List (List Int)} (h : NotesT w B A l) (hB : B ≤ w.heap.size) (hT : TyB w β 40) (hA : ∀ b o, 0 < l.length → A = some ⟨b, o, Option.none⟩ → b ≠ β) : NotesT (w.setCell ⟨β, n, Option.none⟩ v) B A l := by
 have hK : KpT [40] w.heap.size w (w.setCell ⟨β, n, Option.none⟩ v) := (KpT.refl _ _ _).setCell hT (by simp) v
 refine ⟨fun k x hx => ?_⟩
 obtain ⟨b, o, cs, e, h1, h2, h3, h4, v', e', h5⟩ := h.get k x hx
 have hl := (List.getElem?_eq_some_iff.1 hx).1
 have hne := hA b o (by omega) e
 have hb : (w.setCell ⟨β, n, Option.none⟩ v).heap[b]? = w.heap[b]? := Below.heap_setCell w _ _ b hne
 exact ⟨b, o, cs, e, h1, h2.keep hb, h3, fun j hj => (World.cell?_of_block hb).trans (h4 j hj), v', e', h5.keep (hK.mono hB) (by decide) (Nat.le_refl _)⟩
/-- One note is changed. -/
theorem NotesT.put {w : World} {B β n : Nat} {v : Value} {l : List (List Int)} {z : List Int} (h : NotesT w B (some ⟨β, 0, Option.none⟩) l) (hB : B ≤ w.heap.size) (hn : n < l.length) (hz : IRow w B v z) : NotesT (w.setCell ⟨β, n, Option.none⟩ v) B (some ⟨β, 0, Option.none⟩) (l.set n z) := by
 obtain ⟨b0, o0, cs0, e0, g1, g2, g3, g4, v0, g5, g6⟩ := h.get n _ (List.getElem?_eq_getElem hn)
 injection e0 with e0
 injection e0 with eb eo _
 subst eb eo
 have hK : KpT [40] w.heap.size w (w.setCell ⟨β, n, Option.none⟩ v) := (KpT.refl _ _ _).setCell g2 (by simp) v
 have hT2 : TyB (w.setCell ⟨β, n, Option.none⟩ v) β 40 := TyB.set g2 _ _
 refine ⟨fun k x hx => ?_⟩
 by_cases hk : k = n
 ·subst hk
  rw [List.getElem?_set_self hn] at hx
  injection hx with hx
  subst hx
  refine ⟨β, 0, [v], rfl, g1, hT2, rfl, fun j hj => ?_, v, rfl, hz.keep (hK.mono hB) (by decide) (Nat.le_refl _)⟩
  obtain rfl : j = 0 := by omega
  have hc := g4 0 (by decide)
  rw [g5] at hc
  have e1 : 0 + k * 1 + 0 = k := by omega
  rw [e1] at hc ⊢
  exact World.cell?_setCell_same _ _ v hc
 ·rw [List.getElem?_set_ne (fun e => hk e.symm)] at hx
  obtain ⟨b, o, cs, e, h1, h2, h3, h4, v', e', h5⟩ := h.get k x hx
  injection e with e
  injection e with eb eo _
  subst eb eo
  refine ⟨β, 0, cs, rfl, h1, hT2, h3, fun j hj => ?_, v', e', h5.keep (hK.mono hB) (by decide) (Nat.le_refl _)⟩
  obtain rfl : j = 0 := by omega
  rw [← h4 0 hj]
  exact World.cell?_setCell_other _ _ _ _ (by intro e; apply hk; injection e with _ e _; omega)

theorem EvQs.off {w : World} {B β n : Nat} {v : Value} {x : Ev × Nat} {cs : List Value} (h : EvQs w B x cs) (hB : B ≤ w.heap.size) (hT : TyB w β 40) (hne : x.2 ≠ β) : EvQs (w.setCell ⟨β, n, Option.none⟩ v) B x cs := by
 obtain ⟨A, c, e, h1, h2, h3, h4⟩ := h
 refine ⟨A, c, e, h1, h2, NotesT.off h3 hB hT (fun b o h0 he => ?_), fun h0 => ⟨(h4 h0).1, (h4 h0).2.1, (h4 h0).2.2.set _ _⟩⟩
 rw [(h4 h0).1] at he
 injection he with he
 injection he with he _ _
 rw [← he]
 exact hne
theorem EvsS.off {w : World} {B β n : Nat} {v : Value} {A : Option Addr} {l : List Ev} {bs : List Nat} (h : EvsS w B A l bs) (hB : B ≤ w.heap.size) (hT : TyB w β 40) (hne : β ∉ bs) : EvsS (w.setCell ⟨β, n, Option.none⟩ v) B A l bs := by
 have hK : KpT [40] w.heap.size w (w.setCell ⟨β, n, Option.none⟩ v) := (KpT.refl _ _ _).setCell hT (by simp) v
 exact LT.keep h (hK.mono hB) (by decide) (Nat.le_refl _) fun x cs hx hq => hq.off hB hT fun e => hne (by
  obtain ⟨k, hk⟩ := List.mem_iff_getElem?.1 hx
  exact e ▸ List.mem_of_getElem? (zip_some hk).2)
theorem VcQs.off {w : World} {B β n : Nat} {v : Value} {x : Vc × List Nat} {cs : List Value} (h : VcQs w B x cs) (hB : B ≤ w.heap.size) (hT : TyB w β 40) (hne : β ∉ x.2) : VcQs (w.setCell ⟨β, n, Option.none⟩ v) B x cs := by
 obtain ⟨A, c, e, h1, h2, h3, h4⟩ := h
 exact ⟨A, c, e, h1, h2, h3, EvsS.off h4 hB hT hne⟩
/-- A note of an event of a voice, in place. -/
def evPut (x : Ev) (n : Nat) (z : List Int) : Ev := ⟨x.num, x.den, x.notes.set n z⟩
theorem EvsS.put {w : World} {B β k n : Nat} {v : Value} {A : Option Addr} {l : List Ev} {bs : List Nat} {x : Ev} {z : List Int} (h : EvsS w B A l bs) (hB : B ≤ w.heap.size) (hs : bs.Pairwise (· < ·)) (hx : l[k]? = some x) (hb : bs[k]? = some β) (hn : n < x.notes.length) (hz : IRow w B v z) : TyB w β 40 ∧ EvsS (w.setCell ⟨β, n, Option.none⟩ v) B A (l.set k (evPut x n z)) bs := by
 have hk := (List.getElem?_eq_some_iff.1 hx).1
 have hT : TyB w β 40 := by
  obtain ⟨b, o, cs, e, h1, h2, h3, h4, A', c', e', h5, h6, h7, h8⟩ := h.get k _ (zip_get hx hb)
  obtain ⟨b2, o2, v2, e2, h9, h10, _⟩ := NotesT.at_ h7 hn
  rw [(h8 (Nat.lt_of_le_of_lt (Nat.zero_le _) hn)).1] at e2
  injection e2 with e2
  injection e2 with e2 _ _
  have e3 : β = b2 := e2
  rw [e3]
  exact h10
 refine ⟨hT, ⟨fun j y hy => ?_⟩⟩
 have hK : KpT [40] w.heap.size w (w.setCell ⟨β, n, Option.none⟩ v) := (KpT.refl _ _ _).setCell hT (by simp) v
 obtain ⟨hy1, hy2⟩ := zip_some hy
 obtain ⟨y, γ⟩ := y
 dsimp only at hy1 hy2
 by_cases hjk : j = k
 ·subst hjk
  rw [List.getElem?_set_self hk] at hy1
  injection hy1 with hy1
  subst hy1
  rw [hb] at hy2
  injection hy2 with hy2
  subst hy2
  obtain ⟨b, o, cs, e, h1, h2, h3, h4, A', c', e', h5, h6, h7, h8⟩ := h.get j _ (zip_get hx hb)
  have hblk := hK.block b _ (by omega) h2 (by decide)
  obtain ⟨hA, hA2, hA3⟩ := h8 (Nat.lt_of_le_of_lt (Nat.zero_le _) hn)
  subst hA
  dsimp only at h5 h7
  refine ⟨b, o, cs, e, h1, h2.keep hblk, h3, fun i hi => (World.cell?_of_block hblk).trans (h4 i hi), some ⟨β, 0, Option.none⟩, c', ?_, ?_, h6, NotesT.put h7 hB hn hz, fun _ => ⟨rfl, hA2, hA3.set _ _⟩⟩
  ·rw [e']; unfold evPut; dsimp only; rw [List.length_set]
  ·unfold evPut; dsimp only; rw [List.length_set]; exact h5
 ·rw [List.getElem?_set_ne (fun e => hjk e.symm)] at hy1
  obtain ⟨b, o, cs, e, h1, h2, h3, h4, hq⟩ := h.get j _ (zip_get hy1 hy2)
  have hblk := hK.block b _ (by omega) h2 (by decide)
  refine ⟨b, o, cs, e, h1, h2.keep hblk, h3, fun i hi => (World.cell?_of_block hblk).trans (h4 i hi), hq.off hB hT ?_⟩
  show γ ≠ β
  intro e
  subst e
  obtain ⟨hj1, e1⟩ := List.getElem?_eq_some_iff.1 hy2
  obtain ⟨hk1, e2⟩ := List.getElem?_eq_some_iff.1 hb
  rcases Nat.lt_or_gt_of_ne hjk with h9 | h9
  ·have := List.pairwise_iff_getElem.1 hs j k hj1 hk1 h9
   omega
  ·have := List.pairwise_iff_getElem.1 hs k j hk1 hj1 h9
   omega
def vcPut (v : Vc) (k n : Nat) (z : List Int) : Vc := ⟨v.name, v.evs.set k (evPut (v.evs[k]?.getD ⟨[], [], []⟩) n z)⟩
theorem DueT.put {w : World} {β i k n : Nat} {v : Value} {A : Option Addr} {l : List Vc} {gs : List (List Nat)} {bs : List Nat} {u : Vc} {x : Ev} {z : List Int} (h : DueT w A l gs) (hs : gs.flatten.Pairwise (· < ·)) (hu : l[i]? = some u) (hg : gs[i]? = some bs) (hx : u.evs[k]? = some x) (hb : bs[k]? = some β) (hn : n < x.notes.length) (hz : IRow w w.heap.size v z) : DueT (w.setCell ⟨β, n, Option.none⟩ v) A (l.set i (vcPut u k n z)) gs := by
 obtain ⟨h, hlen⟩ := h
 have hi := (List.getElem?_eq_some_iff.1 hu).1
 obtain ⟨hp1, hp2⟩ := List.pairwise_flatten.1 hs
 have hsz : (w.setCell ⟨β, n, Option.none⟩ v).heap.size = w.heap.size := by simp [World.setCell]
 have hput : TyB w β 40 := by
  obtain ⟨b, o, cs, e, h1, h2, h3, h4, A', c', e', h5, h6, h7, h8⟩ := h.get i _ (zip_get hu hg)
  exact (EvsS.put h8 (Nat.le_refl _) (hp1 _ (List.mem_of_getElem? hg)) hx hb hn hz).1
 have hK : KpT [40] w.heap.size w (w.setCell ⟨β, n, Option.none⟩ v) := (KpT.refl _ _ _).setCell hput (by simp) v
 refine ⟨⟨fun j y hy => ?_⟩, by rw [hlen, List.length_set]⟩
 rw [hsz]
 obtain ⟨hy1, hy2⟩ := zip_some hy
 obtain ⟨y, γ⟩ := y
 dsimp only at hy1 hy2
 by_cases hji : j = i
 ·subst hji
  rw [List.getElem?_set_self hi] at hy1
  injection hy1 with hy1
  subst hy1
  rw [hg] at hy2
  injection hy2 with hy2
  subst hy2
  obtain ⟨b, o, cs, e, h1, h2, h3, h4, A', c', e', h5, h6, h7, h8⟩ := h.get j _ (zip_get hu hg)
  have hblk := hK.block b _ (by omega) h2 (by decide)
  have he8 := (EvsS.put h8 (Nat.le_refl _) (hp1 _ (List.mem_of_getElem? hg)) hx hb hn hz).2
  refine ⟨b, o, cs, e, h1, h2.keep hblk, h3, fun i hi => (World.cell?_of_block hblk).trans (h4 i hi), A', c', ?_, ?_, h6, ?_, ?_⟩
  ·rw [e']; unfold vcPut; dsimp only; rw [List.length_set]
  ·unfold vcPut; dsimp only; rw [List.length_set]; exact h5
  ·unfold vcPut; dsimp only; rw [List.length_set]; exact h7
  ·unfold vcPut
   dsimp only at he8 ⊢
   rw [hx]
   exact he8
 ·rw [List.getElem?_set_ne (fun e => hji e.symm)] at hy1
  obtain ⟨b, o, cs, e, h1, h2, h3, h4, hq⟩ := h.get j _ (zip_get hy1 hy2)
  have hblk := hK.block b _ (by omega) h2 (by decide)
  refine ⟨b, o, cs, e, h1, h2.keep hblk, h3, fun i hi => (World.cell?_of_block hblk).trans (h4 i hi), hq.off (Nat.le_refl _) hput ?_⟩
  show β ∉ γ
  intro hbg
  obtain ⟨hj1, e1⟩ := List.getElem?_eq_some_iff.1 hy2
  obtain ⟨hk1, e2⟩ := List.getElem?_eq_some_iff.1 hg
  have hbb := List.mem_of_getElem? hb
  rcases Nat.lt_or_gt_of_ne hji with h9 | h9
  ·have := List.pairwise_iff_getElem.1 hp2 j i hj1 hk1 h9 β (e1 ▸ hbg) β (e2 ▸ hbb)
   omega
  ·have := List.pairwise_iff_getElem.1 hp2 i j hk1 hj1 h9 β (e2 ▸ hbb) β (e1 ▸ hbg)
   omega
/-- What is to be read. -/
theorem EvsS.read {w : World} {B : Nat} {A : Option Addr} {l : List Ev} {bs : List Nat} (h : EvsS w B A l bs) (hl : bs.length = l.length) : EvsT w B A l :=
 ⟨fun k x hx => by
   have hk := (List.getElem?_eq_some_iff.1 hx).1
   obtain ⟨b, o, cs, e, h1, h2, h3, h4, A', c', e', h5, h6, h7, _⟩ := h.get k _ (zip_get hx (List.getElem?_eq_getElem (by omega)))
   exact ⟨b, o, cs, e, h1, h2, h3, h4, A', c', e', h5, h6, h7⟩⟩
theorem DueT.read {w : World} {A : Option Addr} {l : List Vc} {gs : List (List Nat)} (h : DueT w A l gs) : VcsT w w.heap.size A l :=
 ⟨fun k x hx => by
   have hk := (List.getElem?_eq_some_iff.1 hx).1
   obtain ⟨b, o, cs, e, h1, h2, h3, h4, A', c', e', h5, h6, h7, h8⟩ := h.1.get k _ (zip_get hx (List.getElem?_eq_getElem (by rw [h.2]; omega)))
   exact ⟨b, o, cs, e, h1, h2, h3, h4, A', c', e', h5, h6, EvsS.read h8 h7⟩⟩
/-- The cells on the way to a note. -/
theorem DueT.voice {w : World} {A : Option Addr} {l : List Vc} {gs : List (List Nat)} (h : DueT w A l gs) {i : Nat} (hi : i < l.length) : ∃ b o A' c' bs, A = some ⟨b, o, Option.none⟩ ∧ w.cell? ⟨b, o + i * 2 + 1, Option.none⟩ = some (.slice A' (l[i]'hi).evs.length c') ∧ (l[i]'hi).evs.length ≤ c' ∧ c' ≤ maxLen ∧ gs[i]? = some bs ∧ bs.length = (l[i]'hi).evs.length ∧ EvsS w w.heap.size A' (l[i]'hi).evs bs := by
 obtain ⟨b, o, cs, e, h1, h2, h3, h4, A', c', rfl, h5, h6, h7, h8⟩ := h.1.get i _ (zip_get (List.getElem?_eq_getElem hi) (List.getElem?_eq_getElem (by rw [h.2]; exact hi)))
 exact ⟨b, o, A', c', _, e, h4 1 (by decide), h5, h6, List.getElem?_eq_getElem (by rw [h.2]; exact hi), h7, h8⟩
theorem EvsS.event {w : World} {B : Nat} {A : Option Addr} {l : List Ev} {bs : List Nat} (h : EvsS w B A l bs) (hl : bs.length = l.length) {k : Nat} (hk : k < l.length) : ∃ b o A' c' β, A = some ⟨b, o, Option.none⟩ ∧ w.cell? ⟨b, o + k * 3 + 2, Option.none⟩ = some (.slice A' (l[k]'hk).notes.length c') ∧ (l[k]'hk).notes.length ≤ c' ∧ c' ≤ maxLen ∧ bs[k]? = some β ∧ (0 < (l[k]'hk).notes.length → A' = some ⟨β, 0, Option.none⟩ ∧ β < B ∧ Free w β) ∧ NotesT w B A' (l[k]'hk).notes := by
 obtain ⟨b, o, cs, e, h1, h2, h3, h4, A', c', rfl, h5, h6, h7, h8⟩ := h.get k _ (zip_get (List.getElem?_eq_getElem hk) (List.getElem?_eq_getElem (by rw [hl]; exact hk)))
 exact ⟨b, o, A', c', _, e, h4 2 (by decide), h5, h6, List.getElem?_eq_getElem (by rw [hl]; exact hk), h8, h7⟩

section
variable {α : Type}
theorem mid_get (P : List α) (a : α) (R : List α) : (P ++ a :: R)[P.length]? = some a := by simp
theorem mid_set (P : List α) (a b : α) (R : List α) : (P ++ a :: R).set P.length b = P ++ b :: R := by
 induction P with
 | nil => rfl
 | cons p P ih => rw [List.cons_append, List.length_cons, List.set_cons_succ, ih, List.cons_append]
theorem mid_lt (P : List α) (a : α) (R : List α) : P.length < (P ++ a :: R).length := by rw [List.length_append, List.length_cons]; omega
theorem mid_at (P : List α) (a : α) (R : List α) (h : P.length < (P ++ a :: R).length) : (P ++ a :: R)[P.length]'h = a := by
 have := mid_get P a R
 rw [List.getElem?_eq_getElem h] at this
 injection this
end
theorem DueT.mid {w : World} {β : Nat} {v : Value} {A : Option Addr} {gs : List (List Nat)} {bs : List Nat} {P R : List Vc} {nm tn td : List UInt8} {D E : List Ev} {M T : List (List Int)} {x z : List Int} (h : DueT w A (P ++ ⟨nm, D ++ ⟨tn, td, M ++ x :: T⟩ :: E⟩ :: R) gs) (hs : gs.flatten.Pairwise (· < ·)) (hg : gs[P.length]? = some bs) (hb : bs[D.length]? = some β) (hz : IRow w w.heap.size v z) : DueT (w.setCell ⟨β, M.length, Option.none⟩ v) A (P ++ ⟨nm, D ++ ⟨tn, td, M ++ z :: T⟩ :: E⟩ :: R) gs := by
 have h1 := h.put (k := D.length) (n := M.length) hs (mid_get P _ R) hg (mid_get D _ E) hb (mid_lt M x T) hz
 rw [mid_set] at h1
 unfold vcPut at h1
 dsimp only at h1
 rw [mid_get] at h1
 unfold evPut at h1
 dsimp only [Option.getD_some] at h1
 rw [mid_set, mid_set] at h1
 exact h1
theorem DueT.voice_mid {w : World} {A : Option Addr} {gs : List (List Nat)} {P R : List Vc} {u : Vc} (h : DueT w A (P ++ u :: R) gs) : ∃ b o A' c' bs, A = some ⟨b, o, Option.none⟩ ∧ w.cell? ⟨b, o + P.length * 2 + 1, Option.none⟩ = some (.slice A' u.evs.length c') ∧ u.evs.length ≤ c' ∧ c' ≤ maxLen ∧ gs[P.length]? = some bs ∧ bs.length = u.evs.length ∧ EvsS w w.heap.size A' u.evs bs := by
 have h1 := h.voice (mid_lt P u R)
 rw [mid_at] at h1
 exact h1
theorem EvsS.event_mid {w : World} {B : Nat} {A : Option Addr} {bs : List Nat} {D E : List Ev} {x : Ev} (h : EvsS w B A (D ++ x :: E) bs) (hl : bs.length = (D ++ x :: E).length) : ∃ b o A' c' β, A = some ⟨b, o, Option.none⟩ ∧ w.cell? ⟨b, o + D.length * 3 + 2, Option.none⟩ = some (.slice A' x.notes.length c') ∧ x.notes.length ≤ c' ∧ c' ≤ maxLen ∧ bs[D.length]? = some β ∧ (0 < x.notes.length → A' = some ⟨β, 0, Option.none⟩ ∧ β < B ∧ Free w β) ∧ NotesT w B A' x.notes := by
 have h1 := h.event hl (mid_lt D x E)
 rw [mid_at] at h1
 exact h1
theorem NotesT.mid_at {w : World} {B β : Nat} {M T : List (List Int)} {x : List Int} (h : NotesT w B (some ⟨β, 0, Option.none⟩) (M ++ x :: T)) : ∃ v, β < B ∧ TyB w β 40 ∧ w.cell? ⟨β, M.length, Option.none⟩ = some v ∧ IRow w B v x := by
 obtain ⟨b, o, v, e, h1, h2, h3, h4⟩ := NotesT.at_ h (mid_lt M x T)
 rw [Go.Proofs.YtaaeekahhhookaaGreatDoor.mid_at] at h4
 injection e with e
 injection e with e1 e2 _
 subst e1 e2
 rw [Nat.zero_add] at h3
 exact ⟨v, h1, h2, h3, h4⟩

end Go.Proofs.YtaaeekahhhookaaGreatDoor
