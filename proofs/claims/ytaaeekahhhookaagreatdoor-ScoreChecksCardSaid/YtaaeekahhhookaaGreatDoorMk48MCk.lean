import Derived.Test.YtaaeekahhhookaaGreatDoorGXDMCk
import Derived.Test.YtaaeekahhhookaaGreatDoorGXICk
import Derived.Test.YtaaeekahhhookaaGreatDoorGTEMCk
namespace Go.Proofs.YtaaeekahhhookaaGreatDoor
open Go.RowKit Go.Lib
theorem cell_grow {α : Type} {T S : TypeId} {s base X j : Nat} {Q : World → α → List Value → Prop} {w wB : World} {v v' : Value} {l : List α} {css : List (List Value)} {xs cs : List Value} {o : Obj} {x : α}
  (hQ : ∀ {w1 w2 : World} {y : α} {ys : List Value}, KpT [T, S] w1.heap.size w1 w2 → Q w1 y ys → Q w2 y ys) (h : LO T s (Q w) w base v l css) (hx : Cells w X S xs) (hTS : T ≠ S) (hq : Q w x cs) (hs : cs.length = s) (hg : (w.alloc o).grownBy wB v.ownBlock) (ho : wB.ownsRow base T s v' (l.length + 1) (css.flatten ++ cs)) :
  Cells wB X S xs ∧ LO T s (Q (wB.setCell ⟨X, j, Option.none⟩ v')) (wB.setCell ⟨X, j, Option.none⟩ v') base v' (l ++ [x]) (css ++ [cs]) ∧ Cells (wB.setCell ⟨X, j, Option.none⟩ v') X S (xs.set j v') ∧ ∀ B, B ≤ base → B ≤ X → B ≤ w.heap.size → Below B w (wB.setCell ⟨X, j, Option.none⟩ v') := by
 have hown := h.own
 have hneX := own_off_ty hown hx hTS
 have hxB := (hx.alloc o).grown hg hneX
 have hk1 : KpT [T, S] w.heap.size w wB := ((KpT.refl [T, S] w.heap.size w).alloc (Nat.le_refl _) o).grown (hown.alloc o) (by simp) hg
 have hk3 : KpT [T, S] wB.heap.size wB (wB.setCell ⟨X, j, Option.none⟩ v') := (KpT.refl _ _ _).setCell (TyB.of_cells hxB) (by simp) _
 have hk4 : KpT [S] wB.heap.size wB (wB.setCell ⟨X, j, Option.none⟩ v') := (KpT.refl _ _ _).setCell (TyB.of_cells hxB) (by simp) _
 have hlo2 : LO T s (Q wB) wB base v' (l ++ [x]) (css ++ [cs]) := h.push (Q' := Q wB) (fun _ _ _ hq => hQ hk1 hq) (hQ hk1 hq) hs ho
 exact ⟨hxB, hlo2.kpt hk4 (by simp [hTS]) (fun g hg => (hlo2.lt g hg).2) (fun _ _ _ hq => hQ hk3 hq), hxB.set j v', fun B h1 h2 h3 => (((Below.refl _ _).alloc h3 o).grown hg (by simp; omega) (fun k hk => Nat.le_trans h1 (hown.lt k hk).1)).setCell (p := ⟨X, j, Option.none⟩) h2 _⟩
def VcO (w : World) (base : Nat) (v : Value) (l : List Vc) : Prop := ∃ css, LO 48 2 (VcQ w w.heap.size) w base v l css
theorem VcO.nil (w : World) (base : Nat) : VcO w base (.slice Option.none 0 0) [] := ⟨[], LO.nil _ _⟩
theorem VcO.shape {w : World} {base : Nat} {v : Value} {l : List Vc} (h : VcO w base v l) : ∃ A c, v = .slice A l.length c ∧ l.length ≤ c ∧ c ≤ maxLen ∧ VcsT w w.heap.size A l := by
 obtain ⟨css, h⟩ := h
 exact h.shape
theorem VcO.below {w w' : World} {base : Nat} {v : Value} {l : List Vc} (h : VcO w base v l) (hb : Below w.heap.size w w') : VcO w' base v l := by
 obtain ⟨css, h⟩ := h
 exact ⟨css, h.below hb fun _ _ _ hq => hq.keep (E := []) (KpT.of_below hb) (by simp) (by simp) (by simp) hb.size⟩
theorem EvO.below {w w' : World} {base : Nat} {v : Value} {l : List Ev} (h : EvO w base v l) (hb : Below w.heap.size w w') : EvO w' base v l := h.kpt (E := []) (KpT.of_below hb) (by simp) (by simp) (by simp)
theorem trow_cells {w : World} {g n : Nat} {x : List Int} (h : Cells w g 3 (is x)) (hn : x.length = n) (hl : x.length ≤ 1000000) : TRow w (.slice (some ⟨g, 0, Option.none⟩) n n) x := by
 subst hn
 refine ⟨_, _, rfl, Nat.le_refl _, by unfold maxLen; omega, fun _ => ?_⟩
 obtain ⟨cur, p, ht⟩ := TyB.of_cells h
 refine ⟨g, 0, cur, p, rfl, ht, fun k hk => ?_⟩
 rw [Nat.zero_add, h.cell k]
 unfold is
 rw [List.getElem?_map, List.getElem?_eq_getElem hk]
 rfl
set_option maxRecDepth 100000 in
set_option maxHeartbeats 400000 in
theorem primesT_any (n : Nat) (w : World) (hn : n ≤ 255) :
  Calls Tryz.prog 35 #[.int .u8 n] w fun e w' => (∃ A c, e = .returned (.slice A (primesOf n).length c) ∧ TRow w' (.slice A (primesOf n).length c) (primesOf n)) ∧ Below w.heap.size w w' := by
 have hn' : (n : Int) ≤ 255 := by omega
 have hlt : n % 10 < 10 := Nat.mod_lt _ (by omega)
 have hg := primes_get w (n % 10) hlt
 have HR := Lib.hid (primes_row w (n % 10) hlt)
 have HL : Box ((primeTable.getD (n % 10) []).length ≤ 4) := ⟨(primes_all _ hlt).2⟩
 have hp : primesOf n = primeTable.getD (n % 10) [] := rfl
 rw [hp]
 clear hp hlt
 generalize primeTable.getD (n % 10) [] = x at *
 go_enter Tryz.func35, Tryz.ntmps35
 go_wp2
 go_ret
 have hcl : Cells _ _ _ _ := HR.out
 refine ⟨⟨_, _, rfl, ?_⟩, ?_⟩
 ·exact trow_cells hcl rfl (by have := HL.out; omega)
 ·exact allocs_heap.allocs_below (primeObjs w) w
set_option maxRecDepth 100000 in
set_option maxHeartbeats 2000000 in
theorem intervalT_any (AP : Option Addr) (cp n : Nat) (a b c d : Int) (w : World) (hn : n ≤ 4) (h4 : Four [a, b, c, d]) :
  Calls Tryz.prog 37 #[.slice AP n cp, .agg #[.int .i8 a, .int .i8 b, .int .i8 c, .int .i8 d]] w fun e w' => (∃ A c', e = .returned (.slice A (ivlTo [a, b, c, d] n).length c') ∧ TRow w' (.slice A (ivlTo [a, b, c, d] n).length c') (ivlTo [a, b, c, d] n)) ∧ Below w.heap.size w w' := by
 obtain ⟨i0, hi0, hz0, hz1, hz2⟩ := info_parts Tryz.info_int
 have H4 : Box (Four [a, b, c, d]) := ⟨h4⟩
 clear h4
 go_enter Tryz.func37, Tryz.ntmps37
 go_wp2_with fail
 go_loopw [5, 6] (fun o i wr => ∃ j : Nat, j ≤ n ∧ i = .int .i64 j ∧ wr.ownsRow (w.heap.size + 1) 3 1 o j (is (ivlTo [a, b, c, d] j)) ∧ Below (w.heap.size + 1) (w.alloc (.cells #[.int .i8 a, .int .i8 b, .int .i8 c, .int .i8 d] 109)) wr) (fun _ i _ => n - (intOf i).toNat)
 case atStart => exact ⟨0, Nat.zero_le _, rfl, World.ownsRow_nil _ _ _ _, Below.refl _ _⟩
 case round =>
  obtain ⟨j, hj, rfl, hown, hbw⟩ := hrel
  have HO := Lib.hid hown
  clear hown
  by_cases hlt : j < n
  ·have hj4 : j < 4 := by omega
   have hc := four_cell hbw hj4
   have hbd := H4.out.le j hj4
   have e3 : ivlTo [a, b, c, d] (j + 1) = ivlTo [a, b, c, d] j ++ [([a, b, c, d][j]?.getD 0).tmod 10] := rfl
   generalize [a, b, c, d][j]?.getD 0 = z at *
   have E3 := Lib.hid e3
   clear e3
   have htb := tmod_bound z
   go_wp2_with (at_builtin; refine wpList_append_own _ rfl _ _ _ rfl (w.heap.size + 1) 3 i0 (.int .i64 0) 1 8 Tryz.underlying40 hi0 hz0 hz1 hz2 rfl (by decide) _ _ _ rfl (HO.out.alloc _) ⟨wr.heap.size, 0, Option.none⟩ 1 1 [_] rfl rfl (cell_one_new _ _ _) (by intro u hu; simp at hu; subst hu; rfl) (by unfold maxLen; omega) (by omega) (by have := hbw.size; simp at this; simp; omega) ?_; intro v3 w3 hown3 hg3 _)
   go_wp2
   go_roundw
   case rel =>
    refine ⟨j + 1, by omega, by go_num, ?_, ?_⟩
    ·rw [E3.out, is_append]; exact hown3
    ·exact (hbw.alloc (by have := hbw.size; simp at this; omega) _).grown hg3 (by have := hbw.size; simp at this; simp; omega) (fun k hk => (HO.out.lt k hk).1)
   case measure => (simp [intOf]; try omega)
  ·obtain rfl : j = n := by omega
   have hex : wr.ownsRow (w.heap.size + 1) 3 1 u5 (ivlTo [a, b, c, d] j).length (is (ivlTo [a, b, c, d] j)) := by rw [ivlTo_len]; exact HO.out
   have HRI := Lib.hid (TRow.of_own hex)
   clear hex
   go_wp2
   go_ret
   obtain ⟨A, cc, e, _⟩ := id HRI.out
   subst e
   exact ⟨⟨_, _, rfl, HRI.out⟩, below_result hbw⟩
theorem VcO.shape_nil {w : World} {base : Nat} {v : Value} {l : List Vc} (h : VcO w base v l) : ∃ A c, v = .slice A l.length c ∧ l.length ≤ c ∧ c ≤ maxLen ∧ VcsT w w.heap.size A l ∧ (A = Option.none → l.length = 0 ∧ c = 0) := by
 obtain ⟨css, h⟩ := h
 obtain ⟨A, c, e, h1, h2, h3⟩ := h.shape
 refine ⟨A, c, e, h1, h2, h3, fun hA => ?_⟩
 rcases h.own.2 with ⟨e2, h0⟩ | ⟨g, cap, cur, e2, _⟩
 ·rw [e2] at e
  injection e with _ _ e4
  exact ⟨h0, e4.symm⟩
 ·rw [e2, hA] at e
  injection e with e3 _ _
  cases e3
set_option maxRecDepth 100000 in
set_option maxHeartbeats 8000000 in
theorem make48_nil (n : Nat) (v : Value) (l : List (List Bt)) (w : World) (hS : Std w) (hn : n ≤ 255) (hv : PlA w v l) (hf : fitsPl l = true) :
  Calls Tryz.prog 11 #[.agg #[.int .u8 n, v]] w fun e w' => (∃ pv A c, e = .returned (.agg #[pv, .slice A (makeSc n l).voices.length c]) ∧ ScV w' w'.heap.size pv (.slice A (makeSc n l).voices.length c) (makeSc n l) ∧ (A = Option.none → (makeSc n l).voices.length = 0 ∧ c = 0)) ∧ Below w.heap.size w w' := by
 obtain ⟨i0, hi0, hz0, hz1, hz2⟩ := info_parts Tryz.info_row
 obtain ⟨je, hie, gz0, gz1, gz2⟩ := info_parts Tryz.info_event48
 obtain ⟨kv, hiv, fz0, fz1, fz2⟩ := info_parts Tryz.info_voice48
 obtain ⟨h3, hmem⟩ := fits_mem hf
 have HM : Box (∀ i : Nat, (l[i]?.getD []).length ≤ 6 ∧ ∀ b ∈ l[i]?.getD [], b.notes.length ≤ 4) := ⟨hmem⟩
 have HP4 : Box ((primesOf n).length ≤ 4) := ⟨(primesOf_ok n).2⟩
 have HMK : Box (makeSc n l = ⟨primesOf n, makeTo (primesOf n) l l.length⟩) := ⟨by unfold makeSc; rw [Nat.min_eq_left h3]⟩
 have HPR := Lib.hid (fun W => primesT_any n W hn)
 have HS := Lib.hid hS
 generalize makeSc n l = out at *
 generalize primesOf n = p at *
 obtain ⟨A, c, rfl, hlc, hcm, hl⟩ := hv
 obtain ⟨W0, hW0⟩ : ∃ W0, W0 = (w.alloc (.cells #[.int .u8 n, .slice A l.length c] 39)).alloc (.cells #[.slice Option.none 0 0, .slice Option.none 0 0] 29) := ⟨_, rfl⟩
 have hb0 : Below w.heap.size w W0 := by rw [hW0]; exact ((Below.refl _ _).alloc (Nat.le_refl _) _).alloc (by simp) _
 have HPB : Hid (Cells W0 w.heap.size 39 [.int .u8 n, .slice A l.length c]) := Lib.hid (by rw [hW0]; exact (Cells.new w 39 #[.int .u8 n, .slice A l.length c]).alloc _)
 have HRB : Hid (Cells W0 (w.heap.size + 1) 29 [.slice Option.none 0 0, .slice Option.none 0 0]) := Lib.hid (by
  have h := Cells.new (w.alloc (.cells #[.int .u8 n, .slice A l.length c] 39)) 29 #[.slice Option.none 0 0, .slice Option.none 0 0]
  rw [World.size_alloc] at h
  rw [hW0]
  exact h)
 have HB0 := Lib.hid hb0
 have HL0 := Lib.hid (hl.lift hb0 (fun _ _ _ h => h.lift hb0))
 have hw0 := hb0.size
 unfold maxLen at hcm
 obtain ⟨z0, z1⟩ := cel2 HPB.out
 clear hl hmem hf hb0 hS
 go_enter Tryz.func11, Tryz.ntmps11
 go_upto_region 1 with (fail)
 rw [← hW0]
 clear hW0
 go_wp2_with fail
 refine (HPR.out _).mono ?_
 rintro e w1 ⟨⟨AP, cp, rfl, htr⟩, hb1⟩
 have hw1 := hb1.size
 obtain ⟨W1, hW1⟩ : ∃ W1, W1 = w1.alloc (.cells #[.slice AP p.length cp, .slice Option.none 0 0] 29) := ⟨_, rfl⟩
 have hb2 : Below w1.heap.size w1 W1 := by rw [hW1]; exact (Below.refl _ _).alloc (Nat.le_refl _) _
 obtain ⟨SB, hSB⟩ : ∃ SB, SB = w1.heap.size := ⟨_, rfl⟩
 have HSB : Hid (Cells W1 SB 29 [.slice AP p.length cp, .slice Option.none 0 0]) := Lib.hid (by rw [hW1, hSB]; exact Cells.new w1 29 #[.slice AP p.length cp, .slice Option.none 0 0])
 have HIP := Lib.hid (IRow.of_trow htr)
 rw [← hSB] at HIP
 have HB1 := Lib.hid (HB0.out.trans (hb1.mono hw0))
 have HPB1 := Lib.hid (HPB.out.below hb1 HPB.out.lt)
 have HRB1 := Lib.hid (HRB.out.below hb1 HRB.out.lt)
 have HL1 := Lib.hid (HL0.out.lift hb1 (fun _ _ _ h => h.lift hb1))
 have HBS : Hid (Below SB w1 W1) := Lib.hid (by rw [hSB]; exact hb2)
 have hpl := HP4.out
 have HSBE : Box (SB = w1.heap.size) := ⟨hSB⟩
 have hSBw : w.heap.size ≤ SB := by omega
 clear htr hb1 hb2 HPB HRB HL0 HPR z0 z1 HB0
 go_upto_region 3 with (fail)
 rw [← hW1, ← hSB]
 clear hW1 hSB
 go_loopw [4] (fun i wr => ∃ (k : Nat) (vv : Value), k ≤ l.length ∧ i = .int .i64 k ∧ Cells wr SB 29 [.slice AP p.length cp, vv] ∧ VcO wr (SB + 1) vv (makeTo p l k) ∧ Below SB w1 wr) (fun i _ => l.length - (intOf i).toNat)
 case atStart => exact ⟨0, _, Nat.zero_le _, rfl, HSB.out, VcO.nil _ _, HBS.out⟩
 case round =>
  clear HSB HBS
  obtain ⟨k, vv, hk, rfl, hsb, hvc, hbs⟩ := hrel
  have HPR := Lib.hid (HPB1.out.below (HSBE.out ▸ hbs) HPB1.out.lt)
  obtain ⟨z0, z1⟩ := cel2 HPR.out
  by_cases hlt : k < l.length
  ·have hbw1 : Below w1.heap.size w1 wr := HSBE.out ▸ hbs
   obtain ⟨b1, o1, A1, c1, rfl, hb1, q0, h1c, h1m, h1l⟩ := HL1.out.voice hlt
   have HL2 := Lib.hid h1l
   have HQ0 := Lib.hid q0
   have hgd : l[k]?.getD [] = l[k]'hlt := by rw [List.getElem?_eq_getElem hlt]; rfl
   obtain ⟨hu6, hu4⟩ := HM.out k
   rw [hgd] at hu6 hu4
   have HU4 : Box (∀ b ∈ l[k]'hlt, b.notes.length ≤ 4) := ⟨hu4⟩
   have HNX : Box (makeTo p l (k + 1) = makeTo p l k ++ [voiceE p.length k (l[k]'hlt)]) := ⟨by rw [makeTo, hgd]⟩
   have hk3 : (k : Int) < 3 := by omega
   have hk0 : (0 : Int) ≤ (k : Int) := by omega
   have hkl : (k : Int) < (l.length : Int) := by omega
   have HVC := Lib.hid hvc
   have HSBr := Lib.hid hsb
   have HBW1 := Lib.hid hbw1
   have HBSr := Lib.hid hbs
   have hsbl := hsb.lt
   clear hgd hu4 h1l hbw1 hsb hvc hbs q0
   generalize l[k]'hlt = u at *
   unfold maxLen at h1m
   obtain ⟨W2, hW2⟩ : ∃ W2, W2 = wr.alloc (.cells #[.string ⟨#[97]⟩, .string ⟨#[66, 97, 115, 115, 95, 50]⟩, .string ⟨#[99, 35, 39]⟩] 9) := ⟨_, rfl⟩
   have hbW2 : Below wr.heap.size wr W2 := by rw [hW2]; exact (Below.refl _ _).alloc (Nat.le_refl _) _
   have hnm : W2.cell? ⟨wr.heap.size, k, Option.none⟩ = some (.string ⟨(nameOf k).toArray⟩) := by
    have hc := Cells.new wr 9 #[.string ⟨#[97]⟩, .string ⟨#[66, 97, 115, 115, 95, 50]⟩, .string ⟨#[99, 35, 39]⟩]
    rw [hW2, hc.cell k]
    match k, hlt with
    | 0, _ => rfl
    | 1, _ => rfl
    | 2, _ => rfl
    | k + 3, h => omega
   obtain ⟨VB, hVB⟩ : ∃ VB, VB = W2.heap.size := ⟨_, rfl⟩
   obtain ⟨W3, hW3⟩ : ∃ W3, W3 = W2.alloc (.cells #[.string ⟨(nameOf k).toArray⟩, .slice Option.none 0 0] 48) := ⟨_, rfl⟩
   have HVB : Hid (Cells W3 VB 48 [.string ⟨(nameOf k).toArray⟩, .slice Option.none 0 0]) := Lib.hid (by rw [hW3, hVB]; exact Cells.new W2 48 #[.string ⟨(nameOf k).toArray⟩, .slice Option.none 0 0])
   have HBV : Hid (Below VB W2 W3) := Lib.hid (by rw [hW3, hVB]; exact (Below.refl _ _).alloc (Nat.le_refl _) _)
   have HVBE : Box (VB = W2.heap.size) := ⟨hVB⟩
   have HW1 := Lib.hid (HBW1.out.trans (hbW2.mono HBW1.out.size))
   have HSB2 := Lib.hid (HSBr.out.below hbW2 HSBr.out.lt)
   have HBW2 := Lib.hid hbW2
   have hVSB : SB < VB := by have := hbW2.size; omega
   obtain ⟨nmk, hnmk⟩ : ∃ nmk, nameOf k = nmk := ⟨_, rfl⟩
   rw [hnmk] at hnm hW3 HVB
   have HNMK : Box (nameOf k = nmk) := ⟨hnmk⟩
   clear hnmk hbW2
   have hVB2 : VB = wr.heap.size + 1 := by rw [hVB, hW2]; simp
   have hnm2 := hnm
   rw [hW2] at hnm2
   go_upto_region 6 with (fail)
   rw [← hW2]
   rw [← hW3, ← hVB2]
   clear hW3 hW2 hVB hVB2 hnm hnm2 z0 z1
   go_wp2_with fail
   go_loopw [6] (fun i wx => ∃ (j : Nat) (ev : Value), j ≤ u.length ∧ i = .int .i64 j ∧ Cells wx VB 48 [.string ⟨nmk.toArray⟩, ev] ∧ EvO wx (VB + 1) ev ((u.take j).map (beatE p.length)) ∧ Below VB W2 wx) (fun i _ => u.length - (intOf i).toNat)
   case atStart => exact ⟨0, _, Nat.zero_le _, rfl, HVB.out, EvO.nil _ _, HBV.out⟩
   case round =>
    rename World => wx
    clear HVB HBV
    obtain ⟨j, ev, hj, rfl, hvb, hevo, hbv⟩ := hrel
    have hbx2 : Below W2.heap.size W2 wx := HVBE.out ▸ hbv
    have HB1x := Lib.hid (HW1.out.trans (hbx2.mono HW1.out.size))
    have HPBx := Lib.hid (HPB1.out.below HB1x.out HPB1.out.lt)
    obtain ⟨z0, z1⟩ := cel2 HPBx.out
    have q0 := keep_cell HQ0.out HB1x.out
    by_cases hjl : j < u.length
    ·obtain ⟨b2, o2, A2, c2, rfl, hb2, r0, r1, hlen, h2c, h2m, h2l⟩ := HL2.out.beat hjl
     have HL3 := Lib.hid h2l
     have hn4 := HU4.out _ (List.getElem_mem hjl)
     have HNE : Box ((u.take (j + 1)).map (beatE p.length) = (u.take j).map (beatE p.length) ++ [beatE p.length (u[j]'hjl)]) := ⟨by rw [List.take_succ_eq_append_getElem hjl, List.map_append]; rfl⟩
     replace r0 := keep_cell r0 HB1x.out
     replace r1 := keep_cell r1 HB1x.out
     have HVBx := Lib.hid hvb
     have HEVx := Lib.hid hevo
     have HBVx := Lib.hid hbv
     have hvbl := hvb.lt
     clear h2l hvb hevo hbv hbx2
     generalize u[j]'hjl = bt at *
     obtain ⟨len, ns⟩ := bt
     dsimp only at *
     unfold maxLen at h2m
     have hji : (j : Int) < (u.length : Int) := by omega
     have hj0 : (0 : Int) ≤ (j : Int) := by omega
     obtain ⟨BB, hBB⟩ : ∃ BB, BB = wx.heap.size := ⟨_, rfl⟩
     obtain ⟨W4, hW4⟩ : ∃ W4, W4 = wx.alloc (.cells #[.int .u8 (len : Nat), .slice A2 ns.length c2] 104) := ⟨_, rfl⟩
     have hba : Below wx.heap.size wx W4 := by rw [hW4]; exact (Below.refl _ _).alloc (Nat.le_refl _) _
     have HBB : Hid (Cells W4 BB 104 [.int .u8 (len : Nat), .slice A2 ns.length c2]) := Lib.hid (by rw [hW4, hBB]; exact Cells.new wx 104 #[.int .u8 (len : Nat), .slice A2 ns.length c2])
     have HX4 := Lib.hid hba
     obtain ⟨y0, y1⟩ := cel2 HBB.out
     clear hba
     go_upto_region 10 with (fail)
     rw [← hW4, ← hBB]
     clear hW4 hBB r0 r1 q0 z0 z1
     have hcst : ((1 + len % 24 : Nat) : Int) = 1 + (len : Int) % 24 := by omega
     have HO : Hid (∀ W, Std W → Calls Tryz.prog 36 #[.int .i64 (1 + (len : Int) % 24), .int .i64 12] W fun e w' => e = .returned (.tuple #[.agg #[.string ⟨(t12n (1 + len % 24)).toArray⟩, .string ⟨(t12d (1 + len % 24)).toArray⟩], .int .i64 0]) ∧ Below W.heap.size W w') := Lib.hid (fun W h => by
      have h1 := fracOf_any (1 + (len : Int) % 24) 12 W h (by omega) (by decide) (by decide)
      unfold t12n t12d
      rw [hcst]
      exact h1)
     have HSW4 := Lib.hid (HS.out.below (HB1.out.trans ((HB1x.out.trans (HX4.out.mono HB1x.out.size)).mono HB1.out.size)) (Nat.le_refl _))
     have hw1 : IntKind.i64.wrap ((len : Int) % 24) = (len : Int) % 24 := IntWalk.i64_in _ (by omega)
     have hw2 : IntKind.i64.wrap (1 + (len : Int) % 24) = 1 + (len : Int) % 24 := IntWalk.i64_in _ (by omega)
     have hw3 : IntKind.i64.wrap (len : Int) = (len : Int) := IntWalk.i64_in _ (by omega)
     have HEB : Box (beatE p.length ⟨len, ns⟩ = ⟨t12n (1 + len % 24), t12d (1 + len % 24), ns.map fun x => ivlTo x p.length⟩) := ⟨rfl⟩
     clear hcst
     generalize beatE p.length ⟨len, ns⟩ = be at *
     generalize t12n (1 + len % 24) = tn at *
     generalize t12d (1 + len % 24) = td at *
     go_wp2_with fail
     refine (HO.out _ HSW4.out).mono ?_
     rintro e w5 ⟨rfl, hb5⟩
     obtain ⟨W5, hW5⟩ : ∃ W5, W5 = w5.alloc (.cells #[.string ⟨tn.toArray⟩, .string ⟨td.toArray⟩] 51) := ⟨_, rfl⟩
     have hba5 : Below w5.heap.size w5 W5 := by rw [hW5]; exact (Below.refl _ _).alloc (Nat.le_refl _) _
     obtain ⟨LB, hLB⟩ : ∃ LB, LB = w5.heap.size := ⟨_, rfl⟩
     have HLB : Hid (Cells W5 LB 51 [.string ⟨tn.toArray⟩, .string ⟨td.toArray⟩]) := Lib.hid (by rw [hW5, hLB]; exact Cells.new w5 51 #[.string ⟨tn.toArray⟩, .string ⟨td.toArray⟩])
     have HX5 := Lib.hid (HX4.out.trans ((hb5.trans (hba5.mono hb5.size)).mono HX4.out.size))
     have HBB5 := Lib.hid (HBB.out.below (hb5.trans (hba5.mono hb5.size)) HBB.out.lt)
     obtain ⟨l0, l1⟩ := cel2 HLB.out
     clear hb5 hba5 HBB HX4 HSW4 HO y0 y1 hw1 hw2 hw3
     go_upto_region 11 with (fail)
     rw [← hW5, ← hLB]
     clear hW5 hLB
     obtain ⟨XB, hXB⟩ : ∃ XB, XB = W5.heap.size := ⟨_, rfl⟩
     obtain ⟨W6, hW6⟩ : ∃ W6, W6 = W5.alloc (.cells #[.string ⟨tn.toArray⟩, .string ⟨td.toArray⟩, .slice Option.none 0 0] 54) := ⟨_, rfl⟩
     have HXB : Hid (Cells W6 XB 54 [.string ⟨tn.toArray⟩, .string ⟨td.toArray⟩, .slice Option.none 0 0]) := Lib.hid (by rw [hW6, hXB]; exact Cells.new W5 54 #[.string ⟨tn.toArray⟩, .string ⟨td.toArray⟩, .slice Option.none 0 0])
     have HBX : Hid (Below XB W5 W6) := Lib.hid (by rw [hW6, hXB]; exact (Below.refl _ _).alloc (Nat.le_refl _) _)
     have HXBE : Box (XB = W5.heap.size) := ⟨hXB⟩
     have hVX : VB < XB := by have := HX5.out.size; omega
     go_upto_region 12 with (fail)
     rw [← hW6, ← hXB]
     clear hW6 hXB l0 l1 HLB
     go_wp2_with fail
     go_loopw [11] (fun i wy => ∃ (m : Nat) (nv : Value), m ≤ ns.length ∧ i = .int .i64 m ∧ Cells wy XB 54 [.string ⟨tn.toArray⟩, .string ⟨td.toArray⟩, nv] ∧ NtO wy (XB + 1) nv ((ns.take m).map fun x => ivlTo x p.length) ∧ Below XB W5 wy) (fun i _ => ns.length - (intOf i).toNat)
     case atStart => exact ⟨0, _, Nat.zero_le _, rfl, HXB.out, NtO.nil _ _, HBX.out⟩
     case round =>
      rename World => wy
      clear HXB HBX
      obtain ⟨m, nv, hm, rfl, hxb, hnt, hbx⟩ := hrel
      have hb5y : Below W5.heap.size W5 wy := HXBE.out ▸ hbx
      have HXY := Lib.hid (HX5.out.trans (hb5y.mono HX5.out.size))
      have HBBy := Lib.hid (HBB5.out.below hb5y HBB5.out.lt)
      obtain ⟨y0, y1⟩ := cel2 HBBy.out
      have HB1y := Lib.hid (HB1x.out.trans (HXY.out.mono HB1x.out.size))
      by_cases hml : m < ns.length
      ·obtain ⟨b3, o3, a0, a1, a2, a3, rfl, hb3, hnm, hf4, t0, t1, t2, t3⟩ := HL3.out.note hml
       have HNN : Box ((ns.take (m + 1)).map (fun x => ivlTo x p.length) = (ns.take m).map (fun x => ivlTo x p.length) ++ [ivlTo [a0, a1, a2, a3] p.length]) := ⟨by rw [List.take_succ_eq_append_getElem hml, List.map_append, hnm]; rfl⟩
       have HNL : Box (((ns.take m).map (fun x => ivlTo x p.length)).length = m) := ⟨by rw [List.length_map, List.length_take]; omega⟩
       replace t0 := keep_cell t0 HB1y.out
       replace t1 := keep_cell t1 HB1y.out
       replace t2 := keep_cell t2 HB1y.out
       replace t3 := keep_cell t3 HB1y.out
       have hSB4 := HSB2.out.below ((HVBE.out ▸ HBVx.out : Below W2.heap.size W2 wx).trans (HXY.out.mono (HVBE.out ▸ HBVx.out : Below W2.heap.size W2 wx).size)) HSB2.out.lt
       obtain ⟨s0, s1⟩ := cel2 hSB4
       obtain ⟨x0, x1, x2⟩ := cel3 hxb
       have HXBy := Lib.hid hxb
       have HNTy := Lib.hid hnt
       have HBXy := Lib.hid hbx
       have HIV := Lib.hid (fun W => intervalT_any AP cp p.length a0 a1 a2 a3 W hpl hf4)
       have hmi : (m : Int) < (ns.length : Int) := by omega
       have hm0 : (0 : Int) ≤ (m : Int) := by omega
       have hxbl := hxb.lt
       clear hnm hf4 hxb hnt hbx hb5y
       generalize (ns.take m).map (fun x => ivlTo x p.length) = nl at *
       generalize ivlTo [a0, a1, a2, a3] p.length = iv at *
       go_wp2_with fail
       have hB : Below wy.heap.size wy wy.drew := below_to_drew (Below.refl _ _)
       obtain ⟨css, hlo⟩ := HNTy.out
       have hown := hlo.own
       rw [HNL.out] at hown
       have hws : XB < wy.heap.size := hxbl
       go_region_law (first
        | (refine step_append_lies _ (by rfl) _ _ _ (by rfl) (XB + 1) 40 i0 _ 1 24 Tryz.underlying52 hi0 hz0 hz1 hz2 rfl (by omega) nv m css.flatten (by rfl) (hownA.alloc _) ⟨wA.heap.size, 0, Option.none⟩ 1 1 [.slice A9 iv.length c9] (by rfl) (by rfl) (World.news_of_block (cs := #[.slice A9 iv.length c9]) (t := 40) (fr := (0, 0)) (heap_alloc_new wA _)) (by simp [Value.oneCell']) (by omega) (by unfold maxLen; omega) (by omega) (by simp; omega) (wA.heap.size + 1) (by simp) ?_; intro gB cB wB hownB hgB hatB hltB; obtain ⟨hxB, hloB, hxN, hbN⟩ := cell_grow (j := 2) (Q := fun w => NoteQ w w.heap.size) (x := iv) (cs := [.slice A9 iv.length c9]) (fun hk h => h.keep hk (by decide) hk.size) hloA hxA (by decide) ⟨_, rfl, IRow.of_trow htr⟩ rfl hgB (by rw [HNL.out]; exact hownB); have fB := hxB.free 2; obtain ⟨_, _, sB⟩ := cel3 hxB)
        | (go_simp; go_at_call 37; (with_reducible refine (HIV.out _).mono ?_); rintro e wA ⟨⟨A9, c9, rfl, htr⟩, hbk⟩; replace hB := hB.trans (hbk.mono hB.size); clear hbk; have hxA := HXBy.out.below hB HXBy.out.lt; obtain ⟨v0, v1, v2⟩ := cel3 hxA; obtain ⟨v3, v4, v5⟩ := cel3 (hxA.alloc (.cells #[.slice A9 iv.length c9] 40)); have hloA := hlo.below hB (fun _ _ _ h => NoteQ.keep (E := []) (KpT.of_below hB) (by simp) hB.size h); have hownA := hloA.own; rw [HNL.out] at hownA; have hwA := hB.size))
       all_goals
        have HXN := Lib.hid hxN
        have HLN := Lib.hid hloB
        have HBN := Lib.hid (HBXy.out.trans ((hB.mono (Nat.le_of_lt hws)).trans (hbN XB (Nat.le_succ _) (Nat.le_refl _) (by omega))))
        clear hxB hloB hxN hbN fB sB hownB hgB hatB hltB hB hxA hloA hownA v0 v1 v2 v3 v4 v5 s0 s1 x0 x1 x2 y0 y1 t0 t1 t2 t3
        go_wp2_with fail
        go_roundw
        case rel => exact ⟨m + 1, _, by omega, by go_num, HXN.out, ⟨_, by rw [HNN.out]; exact HLN.out⟩, HBN.out⟩
        case measure => simp [intOf]; omega
      ·obtain rfl : m = ns.length := by omega
       rw [List.take_length] at hnt
       obtain ⟨AN, cN, rfl, hN1, hN2, hN3⟩ := hnt.shape
       have hvby := HVBx.out.below HXY.out hvbl
       obtain ⟨css, hlo⟩ := HEVx.out.below HXY.out
       have HEL : Box (((u.take j).map (beatE p.length)).length = j) := ⟨by rw [List.length_map, List.length_take]; omega⟩
       have hown := hlo.own
       rw [HEL.out] at hown
       have hqe : EvQ wy wy.heap.size be [.string ⟨tn.toArray⟩, .string ⟨td.toArray⟩, .slice AN (ns.map fun x => ivlTo x p.length).length cN] := by
        rw [HEB.out]
        exact ⟨AN, cN, rfl, hN1, hN2, hN3⟩
       have HQE := Lib.hid hqe
       have HLOv := Lib.hid hlo
       have HVy := Lib.hid hvby
       obtain ⟨s0, s1⟩ := cel2 hvby
       obtain ⟨x0, x1, x2⟩ := cel3 hxb
       have hx1 := hxb.alloc (.cells #[.string ⟨tn.toArray⟩, .string ⟨td.toArray⟩, .slice AN (ns.map fun x => ivlTo x p.length).length cN] 54)
       have hvl1 := hvby.lt
       have HBVy := Lib.hid (HBVx.out.trans (HXY.out.mono (Nat.le_of_lt hvbl)))
       have hvw : VB < wy.heap.size := hvl1
       clear hxb hnt hbx hb5y hN1 hN2 hN3 hlo hvby hqe hx1
       generalize (ns.map fun x => ivlTo x p.length).length = nsl at *
       go_wp2_with (at_builtin; refine wpList_append_own _ rfl _ _ _ rfl (VB + 1) 54 je (.agg #[.string ⟨#[]⟩, .string ⟨#[]⟩, .slice Option.none 0 0]) 3 56 Tryz.underlying46 hie gz0 gz1 gz2 rfl (by decide) _ _ _ rfl (hown.alloc _) ⟨wy.heap.size, 0, Option.none⟩ 1 1 [.string ⟨tn.toArray⟩, .string ⟨td.toArray⟩, .slice AN nsl cN] rfl rfl (World.news_of_block (cs := #[.string ⟨tn.toArray⟩, .string ⟨td.toArray⟩, .slice AN nsl cN]) (t := 54) (fr := (0, 0)) (heap_alloc_new wy _)) (by simp [Value.oneCell']) (by unfold maxLen; omega) (by omega) (by simp; omega) ?_; intro v9 w9 hown9 hg9 _; obtain ⟨g9, c9, rfl, _, _⟩ := hown9.form (by omega); obtain ⟨hxB, hloB, hxN, hbN⟩ := cell_grow (j := 1) (Q := fun w => EvQ w w.heap.size) (x := be) (fun hk h => h.keep hk (by decide) (by decide) hk.size) HLOv.out HVy.out (by decide) HQE.out rfl hg9 (by rw [HEL.out]; exact hown9); have fB := hxB.free 1; obtain ⟨_, sB⟩ := cel2 hxB)
       have HXN := Lib.hid hxN
       have HLN := Lib.hid hloB
       have HBN := Lib.hid (HBVy.out.trans (hbN VB (Nat.le_succ _) (Nat.le_refl _) (Nat.le_of_lt hvw)))
       clear hxB hloB hxN hbN fB sB
       go_roundw
       case rel => exact ⟨j + 1, _, by omega, by go_num, HXN.out, ⟨_, by rw [HNE.out]; exact HLN.out⟩, HBN.out⟩
       case measure => simp [intOf]; omega
    ·obtain rfl : j = u.length := by omega
     rw [List.take_length] at hevo
     obtain ⟨AE, cE, rfl, hE1, hE2, hE3⟩ := hevo.shape
     have hsbx := HSB2.out.below hbx2 HSB2.out.lt
     have hrx : Below wr.heap.size wr wx := HBW2.out.trans (hbx2.mono HBW2.out.size)
     obtain ⟨css, hlo⟩ := HVC.out.below hrx
     have HEL : Box ((makeTo p l k).length = k) := ⟨makeTo_len p l k⟩
     have hown := hlo.own
     rw [HEL.out] at hown
     have hqv : VcQ wx wx.heap.size (voiceE p.length k u) [.string ⟨nmk.toArray⟩, .slice AE (u.map (beatE p.length)).length cE] := by
      unfold voiceE
      rw [HNMK.out]
      exact ⟨AE, cE, rfl, hE1, hE2, hE3⟩
     have HQV := Lib.hid hqv
     have HLOv := Lib.hid hlo
     have HSx := Lib.hid hsbx
     obtain ⟨s0, s1⟩ := cel2 hsbx
     obtain ⟨x0, x1⟩ := cel2 hvb
     have hsw : SB < wx.heap.size := hsbx.lt
     have HBSx := Lib.hid (HBSr.out.trans (hrx.mono (Nat.le_of_lt hsbl)))
     clear hvb hevo hbv hbx2 hE1 hE2 hE3 hlo hsbx hqv hrx
     generalize (u.map (beatE p.length)).length = ul at *
     go_wp2_with (at_builtin; refine wpList_append_own _ rfl _ _ _ rfl (SB + 1) 48 kv (.agg #[.string ⟨#[]⟩, .slice Option.none 0 0]) 2 40 Tryz.underlying27 hiv fz0 fz1 fz2 rfl (by decide) _ _ _ rfl (hown.alloc _) ⟨wx.heap.size, 0, Option.none⟩ 1 1 [.string ⟨nmk.toArray⟩, .slice AE ul cE] rfl rfl (World.news_of_block (cs := #[.string ⟨nmk.toArray⟩, .slice AE ul cE]) (t := 48) (fr := (0, 0)) (heap_alloc_new wx _)) (by simp [Value.oneCell']) (by unfold maxLen; omega) (by omega) (by simp; omega) ?_; intro v9 w9 hown9 hg9 _; obtain ⟨g9, c9, rfl, _, _⟩ := hown9.form (by omega); obtain ⟨hxB, hloB, hxN, hbN⟩ := cell_grow (j := 1) (Q := fun w => VcQ w w.heap.size) (x := voiceE p.length k u) (fun hk h => h.keep hk (by decide) (by decide) (by decide) hk.size) HLOv.out HSx.out (by decide) HQV.out rfl hg9 (by rw [HEL.out]; exact hown9); have fB := hxB.free 1; obtain ⟨_, sB⟩ := cel2 hxB)
     have HXN := Lib.hid hxN
     have HLN := Lib.hid hloB
     have HBN := Lib.hid (HBSx.out.trans (hbN SB (Nat.le_succ _) (Nat.le_refl _) (Nat.le_of_lt hsw)))
     clear hxB hloB hxN hbN fB sB
     go_roundw
     case rel => exact ⟨k + 1, _, by omega, by go_num, HXN.out, ⟨_, by rw [HNX.out]; exact HLN.out⟩, HBN.out⟩
     case measure => simp [intOf]; omega
  ·obtain rfl : k = l.length := by omega
   have hrb := HRB1.out.below (HSBE.out ▸ hbs) HRB1.out.lt
   have y0 := hrb.free 0
   have y1 := hrb.free 1
   obtain ⟨x0, x1⟩ := cel2 hsb
   obtain ⟨AV, cV, rfl, hV1, hV2, hV3, hV4⟩ := hvc.shape_nil
   have HV4 := Box.mk hV4
   obtain ⟨r0, r1⟩ := cel2 hrb
   have HSV := Lib.hid (show ScV wr wr.heap.size (.slice AP p.length cp) (.slice AV (makeTo p l l.length).length cV) ⟨p, makeTo p l l.length⟩ from ⟨(HIP.out.keep (E := []) (KpT.of_below hbs) (by simp) (Nat.le_of_lt hsb.lt)), AV, cV, rfl, hV1, hV2, hV3⟩)
   have HRBx := Lib.hid hrb
   have HBF := Lib.hid (HB1.out.trans ((HSBE.out ▸ hbs : Below w1.heap.size w1 wr).mono HB1.out.size))
   clear hrb hsb hvc hbs hV1 hV2 hV3 hV4
   generalize hml : (makeTo p l l.length).length = ml at *
   have HML : Box ((makeTo p l l.length).length = ml) := ⟨hml⟩
   clear hml
   go_wp2_with fail
   have hset := (HRBx.out.set 0 (.slice AP p.length cp)).set 1 (.slice AV ml cV)
   have hk : KpT [29] wr.heap.size wr ((wr.setCell ⟨w.heap.size + 1, 0, Option.none⟩ (.slice AP p.length cp)).setCell ⟨w.heap.size + 1, 1, Option.none⟩ (.slice AV ml cV)) := ((KpT.refl _ _ _).setCell (TyB.of_cells HRBx.out) (by simp) _).setCell (TyB.of_cells (HRBx.out.set 0 (.slice AP p.length cp))) (by simp) _
   obtain ⟨w0, w1'⟩ := cel2 hset
   refine bodyPost_ret (v := .agg #[.slice AP p.length cp, .slice AV ml cV]) (by simp (maxDischargeDepth := 10) [results, Tryz.results11, go_sem, w0, w1']) rfl ⟨⟨_, AV, cV, by rw [HMK.out, ← HML.out], ?_, ?_⟩, ?_⟩
   ·rw [HMK.out]
    show ScV _ _ _ (.slice AV (makeTo p l l.length).length cV) _
    rw [HML.out]
    exact HSV.out.keep hk (by decide) (by decide) (by decide) (by decide) hk.size
   ·rw [HMK.out]
    show AV = Option.none → (makeTo p l l.length).length = 0 ∧ cV = 0
    rw [HML.out]
    exact HV4.out
   ·exact (HBF.out.setCell (p := ⟨w.heap.size + 1, 0, Option.none⟩) (Nat.le_succ _) _).setCell (p := ⟨w.heap.size + 1, 1, Option.none⟩) (Nat.le_succ _) _
end Go.Proofs.YtaaeekahhhookaaGreatDoor
