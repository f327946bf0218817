/- What score.Transpose calls: the sum of two right intervals in a block of ints, slices.Clone of primes. score.Transpose (printed by gen_tr.py). -/
import Derived.Test.YtaaeekahhhookaaGreatDoorTr0Tr
import Derived.Test.YtaaeekahhhookaaGreatDoorMk48MTr
import Derived.Test.YtaaeekahhhookaaGreatDoorGRMTr
namespace Go.Proofs.YtaaeekahhhookaaGreatDoor
open Go.RowKit Go.Lib

theorem sum_okO (AP AX AY : Option Addr) (cp cx cy : Nat) (p x y : List Int) (k : Int) (w : World) (hp : IsRow w w.heap.size (.slice AP p.length cp) p) (hx : IsRow w w.heap.size (.slice AX x.length cx) x) (hy : IsRow w w.heap.size (.slice AY y.length cy) y) (h : chkAll p [x, y] = 0) (hk : k = 1 ∨ k = -1) :
  Calls Tryz.prog 40 #[.slice AP p.length cp, .slice AX x.length cx, .slice AY y.length cy, .int .i64 k] w fun e w' => ResPostO p (sumTo x y k x.length) e w' ∧ Below w.heap.size w w' := by
 have hc := checkTwo AP AX AY cp cx cy p x y w hp hx hy
 rw [h] at hc
 exact sum_loopO AP AX AY cp cx cy p x y k w hp hx hy h hk (Lib.hid hc)
/-- The result of Add. -/
def UpPost (p z : List Int) (e : Ending) (w' : World) : Prop :=
 (chkAll p [z] = 0 ∧ ∃ A c, e = .returned (.tuple #[.slice A z.length c, .int .i64 0]) ∧ TRow w' (.slice A z.length c) z) ∨
 (chkAll p [z] ≠ 0 ∧ e = .returned (.tuple #[.slice Option.none 0 0, .int .i64 4]))
set_option maxHeartbeats 400000 in
theorem addT_any (pv xv yv : Value) (p x y : List Int) (w : World) (hp : IsRow w w.heap.size pv p) (hx : IsRow w w.heap.size xv x) (hy : IsRow w w.heap.size yv y) (h1 : chkAll p [x] = 0) (h2 : chkAll p [y] = 0) :
  Calls Tryz.prog 14 #[pv, xv, yv] w fun e w' => UpPost p (upN y x) e w' ∧ Below w.heap.size w w' := by
 obtain ⟨AP, cp, rfl⟩ := hp.shape
 obtain ⟨AX, cx, rfl⟩ := hx.shape
 obtain ⟨AY, cy, rfl⟩ := hy.shape
 have HC := Lib.hid (sum_okO AP AX AY cp cx cy p x y 1 w hp hx hy (chk_both h1 h2) (.inl rfl))
 clear hp hx hy h1 h2
 go_enter Tryz.func14, Tryz.ntmps14
 go_wp2_with fail
 refine HC.out.mono ?_
 rintro e w1 ⟨hr, hb1⟩
 rcases hr with ⟨hz, v, rfl, hv⟩ | ⟨hz, rfl⟩
 ·have ht := TRow.of_own hv
  have HT : Box (UpPost p (upN y x) (.returned (.tuple #[v, .int .i64 0])) w1) := ⟨by
   obtain ⟨A, c, rfl, hc⟩ := id ht
   exact .inl ⟨hz, A, c, rfl, ht⟩⟩
  clear ht hv hz
  go_wp2_with fail
  go_ret2
  exact ⟨HT.out, hb1⟩
 ·have HT : Box (UpPost p (upN y x) (.returned (.tuple #[.slice Option.none 0 0, .int .i64 4])) w1) := ⟨.inr ⟨hz, rfl⟩⟩
  clear hz
  go_wp2_with fail
  go_ret2
  exact ⟨HT.out, hb1⟩

-- slices.Clone of primes.
set_option maxRecDepth 100000 in
set_option maxHeartbeats 1000000 in
theorem cloneP_any (v : Value) (x : List Int) (w : World) (h : IsRow w w.heap.size v x) (hx : x.length ≤ 1000) :
  Calls Tryz.prog 38 #[v] w fun e w' => (∃ A c, e = .returned (.slice A x.length c) ∧ TRow w' (.slice A x.length c) x) ∧ Below w.heap.size w w' := by
 obtain ⟨i0, hi0, hz0, hz1, hz2⟩ := info_parts Tryz.info_int
 obtain ⟨A, c, rfl, h1, h2, hr⟩ := h
 have hE := fun W => Lib.run_eql_slice_nil (P := Tryz.prog) W 26 3 A x.length c 0 0 Tryz.underlying26
 cases A with
 | none =>
   have hx0 : x.length = 0 := by
    rcases Nat.eq_zero_or_pos x.length with h | h
    ·exact h
    ·obtain ⟨ad, hn, _⟩ := hr.2 0 (.int .i64 (x[0]?.getD 0)) (by unfold is; rw [List.getElem?_map, List.getElem?_eq_getElem h]; rfl)
     cases hn
   rw [hx0] at hE ⊢
   go_enter Tryz.func38, Tryz.ntmps38
   go_wp2_with fail
   go_ret
   exact ⟨⟨_, _, rfl, Option.none, 0, by rw [hx0], by omega, Nat.zero_le _, fun h => by omega⟩, Below.refl _ _⟩
 | some ad =>
   have hcells : ∀ (j : Nat) u, (is x)[j]? = some u → (w.alloc (.cells #[] 3)).cell? (ad.add j) = some u := fun j u hu => by
    obtain ⟨ad', e, hb, hc⟩ := hr.2 j u hu
    injection e with e
    subst e
    exact keep_cell hc ((Below.refl w.heap.size w).alloc (Nat.le_refl _) _)
   have hown : (w.alloc (.cells #[] 3)).ownsRow w.heap.size 3 1 (.slice (some ⟨w.heap.size, 0, Option.none⟩) 0 0) 0 [] := Cells.own (k := 0) (Cells.new w 3 #[]) (Nat.le_refl _) rfl (Nat.zero_le _) (Nat.le_refl _)
   have HO := Lib.hid hown
   have HC := Lib.hid hcells
   clear hown hcells hr
   go_enter Tryz.func38, Tryz.ntmps38
   go_wp2_with (at_builtin; refine wpList_append_own _ rfl _ _ _ rfl w.heap.size 3 i0 (.int .i64 0) 1 8 Tryz.underlying26 hi0 hz0 hz1 hz2 rfl (by decide) _ _ _ rfl HO.out ad x.length c (is x) rfl (by simp [is]) HC.out (by intro u hu; unfold is at hu; obtain ⟨z, _, rfl⟩ := List.mem_map.1 hu; rfl) (by unfold maxLen; omega) (by omega) (by simp) ?_; intro v3 w3 hown3 hg3 _)
   rw [List.nil_append, Nat.zero_add] at hown3
   have ht := TRow.of_own (x := x) hown3
   obtain ⟨A3, c3, rfl, _⟩ := id ht
   have hbw : Below w.heap.size w w3 := ((Below.refl w.heap.size w).alloc (Nat.le_refl _) (.cells #[] 3)).grown hg3 (by simp) (fun k hk => (HO.out.lt k hk).1)
   go_wp2_with fail
   go_ret
   exact ⟨⟨_, _, rfl, ht⟩, hbw⟩

end Go.Proofs.YtaaeekahhhookaaGreatDoor

namespace Go.Proofs.YtaaeekahhhookaaGreatDoor
open Go.RowKit Go.Lib

def TrPost (w' : World) (y : List Int) (s : Sc) (e : Ending) : Prop := match upSc y s with
 | some u => ∃ pv vv, e = .returned (.tuple #[.agg #[pv, vv], .int .i64 0]) ∧ ScV w' w'.heap.size pv vv u
 | none => e = .returned (.tuple #[.agg #[.slice Option.none 0 0, .slice Option.none 0 0], .int .i64 4])

set_option maxRecDepth 100000 in
set_option maxHeartbeats 8000000 in
theorem scTrans_bad (pv vv yv : Value) (y : List Int) (s : Sc) (w : World) (hS : Std w) (h : ScV w w.heap.size pv vv s) (hyv : IsRow w w.heap.size yv y) (hm : ScSm s) (he : scErr s = 0) (hy : chkAll s.primes [y] ≠ 0) :
  Calls Tryz.prog 12 #[.agg #[pv, vv], yv] w fun e w' => e = .returned (.tuple #[.agg #[.slice Option.none 0 0, .slice Option.none 0 0], .int .i64 (chkAll s.primes [y])]) ∧ Below w.heap.size w w' := by
 have heb : (chkAll s.primes [y] != 0) = true := by rw [bne_iff_ne]; exact hy
 obtain ⟨hp, A, c, rfl, _⟩ := id h
 have HP := Lib.hid hp
 have HY := Lib.hid hyv
 obtain ⟨AP, cp, rfl, _⟩ := hp.shape
 obtain ⟨AY, cy, rfl⟩ := hyv.shape
 obtain ⟨W0, hW0⟩ : ∃ W0, W0 = (w.alloc (.cells #[.slice AP s.primes.length cp, .slice A s.voices.length c] 29)).alloc (.cells #[.slice Option.none 0 0, .slice Option.none 0 0] 29) := ⟨_, rfl⟩
 have hb0 : Below w.heap.size w W0 := by rw [hW0]; exact ((Below.refl _ _).alloc (Nat.le_refl _) _).alloc (by simp) _
 have HPB : Hid (Cells W0 w.heap.size 29 [.slice AP s.primes.length cp, .slice A s.voices.length c]) := Lib.hid (by rw [hW0]; exact (Cells.new w 29 #[.slice AP s.primes.length cp, .slice A s.voices.length c]).alloc _)
 have HRB : Hid (Cells W0 (w.heap.size + 1) 29 [.slice Option.none 0 0, .slice Option.none 0 0]) := Lib.hid (by
  have h := Cells.new (w.alloc (.cells #[.slice AP s.primes.length cp, .slice A s.voices.length c] 29)) 29 #[.slice Option.none 0 0, .slice Option.none 0 0]
  rw [World.size_alloc] at h
  rw [hW0]
  exact h)
 have HC := Lib.hid (scCheck_any _ _ s W0 (hS.below hb0 (Nat.le_refl _)) (h.lift hb0) hm)
 rw [he] at HC
 have HB0 := Lib.hid hb0
 have HCY := Lib.hid (fun W (hb : Below w.heap.size w W) => check_any (.slice AP s.primes.length cp) (.slice AY y.length cy) s.primes y W (HP.out.lift hb).row (HY.out.lift hb))
 generalize chkAll s.primes [y] = q at *
 clear hS h hp hyv hm he hy hb0
 obtain ⟨z0, z1⟩ := cel2 HPB.out
 go_enter Tryz.func12, Tryz.ntmps12
 go_upto_region 1 with (fail)
 rw [← hW0]
 clear hW0
 go_wp2_with fail
 refine HC.out.mono ?_
 rintro e w1 ⟨rfl, hb1⟩
 have HB1 := Lib.hid (HB0.out.trans (hb1.mono HB0.out.size))
 replace HRB := Lib.hid (HRB.out.below hb1 HRB.out.lt)
 replace z0 := keep_cell z0 hb1
 clear hb1 z1
 go_wp2_with fail
 refine (HCY.out _ HB1.out).mono ?_
 rintro e w2 ⟨rfl, hb2⟩
 have HB2 := Lib.hid (HB1.out.trans (hb2.mono HB1.out.size))
 have HRF := Lib.hid (HRB.out.below hb2 HRB.out.lt)
 clear hb2 z0
 obtain ⟨r0, r1⟩ := cel2 HRF.out
 have f0 := HRF.out.free 0
 have f1 := HRF.out.free 1
 go_wp2_with fail
 have hset := (HRF.out.set 0 (.slice Option.none 0 0)).set 1 (.slice Option.none 0 0)
 obtain ⟨t0, t1⟩ := cel2 hset
 refine bodyPost_ret (v := .tuple #[.agg #[.slice Option.none 0 0, .slice Option.none 0 0], .int .i64 q]) (by simp (maxDischargeDepth := 10) [results, Tryz.results12, go_sem, t0, t1]) rfl ⟨rfl, ?_⟩
 exact (HB2.out.setCell (p := ⟨w.heap.size + 1, 0, Option.none⟩) (Nat.le_succ _) _).setCell (p := ⟨w.heap.size + 1, 1, Option.none⟩) (Nat.le_succ _) _

set_option maxRecDepth 100000 in
set_option maxHeartbeats 8000000 in
theorem scTrans_ok (pv vv yv : Value) (y : List Int) (s : Sc) (w : World) (hS : Std w) (h : ScV w w.heap.size pv vv s) (hyv : IsRow w w.heap.size yv y) (hm : ScSm s) (he : scErr s = 0) (hy : chkAll s.primes [y] = 0) :
  Calls Tryz.prog 12 #[.agg #[pv, vv], yv] w fun e w' => TrPost w' y s e ∧ Below w.heap.size w w' := by
 obtain ⟨i0, hi0, hz0, hz1, hz2⟩ := info_parts Tryz.info_row
 obtain ⟨je, hie, gz0, gz1, gz2⟩ := info_parts Tryz.info_event48
 obtain ⟨kv, hiv, fz0, fz1, fz2⟩ := info_parts Tryz.info_voice48
 have hok := ScOk.of he
 have HOK : Box (s.voices.length ≤ 8 ∧ (∀ v ∈ s.voices, v.evs.length ≤ 500) ∧ ∀ v ∈ s.voices, ∀ x ∈ v.evs, x.notes.length ≤ 12 ∧ ∀ z ∈ x.notes, chkAll s.primes [z] = 0) := ⟨hok.vcs, hok.evs, fun v hv x hx => (hok.ev v hv x hx).2⟩
 have hvl := hok.vcs
 have hpl : s.primes.length ≤ 1000 := by have := (right_primes hok.prm).1; omega
 obtain ⟨hp, A, c, rfl, hc1, hc2, hvt⟩ := id h
 have HP := Lib.hid hp
 have HY := Lib.hid hyv
 obtain ⟨AP, cp, rfl, _⟩ := hp.shape
 obtain ⟨AY, cy, rfl⟩ := hyv.shape
 unfold maxLen at hc2
 obtain ⟨W0, hW0⟩ : ∃ W0, W0 = (w.alloc (.cells #[.slice AP s.primes.length cp, .slice A s.voices.length c] 29)).alloc (.cells #[.slice Option.none 0 0, .slice Option.none 0 0] 29) := ⟨_, rfl⟩
 have hb0 : Below w.heap.size w W0 := by rw [hW0]; exact ((Below.refl _ _).alloc (Nat.le_refl _) _).alloc (by simp) _
 have HPB : Hid (Cells W0 w.heap.size 29 [.slice AP s.primes.length cp, .slice A s.voices.length c]) := Lib.hid (by rw [hW0]; exact (Cells.new w 29 #[.slice AP s.primes.length cp, .slice A s.voices.length c]).alloc _)
 have HRB : Hid (Cells W0 (w.heap.size + 1) 29 [.slice Option.none 0 0, .slice Option.none 0 0]) := Lib.hid (by
  have h := Cells.new (w.alloc (.cells #[.slice AP s.primes.length cp, .slice A s.voices.length c] 29)) 29 #[.slice Option.none 0 0, .slice Option.none 0 0]
  rw [World.size_alloc] at h
  rw [hW0]
  exact h)
 have HC := Lib.hid (scCheck_any _ _ s W0 (hS.below hb0 (Nat.le_refl _)) (h.lift hb0) hm)
 rw [he] at HC
 have HB0 := Lib.hid hb0
 have HV := Lib.hid (VcsT.lift hvt hb0)
 have HCY := Lib.hid (fun W (hb : Below w.heap.size w W) => check_any (.slice AP s.primes.length cp) (.slice AY y.length cy) s.primes y W (HP.out.lift hb).row (HY.out.lift hb))
 rw [hy] at HCY
 have HCL := Lib.hid (fun W (hb : Below w.heap.size w W) => cloneP_any (.slice AP s.primes.length cp) s.primes W (HP.out.lift hb).row hpl)
 have HADD := Lib.hid (fun xv x W (hb : Below w.heap.size w W) (hx : IsRow W W.heap.size xv x) (hc : chkAll s.primes [x] = 0) => addT_any (.slice AP s.primes.length cp) xv (.slice AY y.length cy) s.primes x y W (HP.out.lift hb).row hx (HY.out.lift hb) hc hy)
 have HUP : Box (upSc y s = match upVcs s.primes y s.voices with | some m => some ⟨s.primes, m⟩ | none => none) := ⟨rfl⟩
 have HTP : Box (∀ w' e, TrPost w' y s e = match upSc y s with
  | some u => ∃ pv vv, e = .returned (.tuple #[.agg #[pv, vv], .int .i64 0]) ∧ ScV w' w'.heap.size pv vv u
  | none => e = .returned (.tuple #[.agg #[.slice Option.none 0 0, .slice Option.none 0 0], .int .i64 4])) := ⟨fun _ _ => rfl⟩
 clear hS h hp hyv hm he hy hb0 hvt hok
 generalize s.primes = pr at *
 generalize s.voices = vs at *
 generalize upSc y s = res at *
 obtain ⟨z0, z1⟩ := cel2 HPB.out
 go_enter Tryz.func12, Tryz.ntmps12
 go_upto_region 1 with (fail)
 rw [← hW0]
 clear hW0
 go_wp2_with fail
 refine HC.out.mono ?_
 rintro e w1 ⟨rfl, hb1⟩
 replace HB0 := Lib.hid (HB0.out.trans (hb1.mono HB0.out.size))
 replace HPB := Lib.hid (HPB.out.below hb1 HPB.out.lt)
 replace HRB := Lib.hid (HRB.out.below hb1 HRB.out.lt)
 replace HV := Lib.hid (VcsT.lift HV.out hb1)
 clear hb1 z0 z1 HC
 obtain ⟨z0, z1⟩ := cel2 HPB.out
 go_wp2_with fail
 refine (HCY.out _ HB0.out).mono ?_
 rintro e w2 ⟨rfl, hb2⟩
 replace HB0 := Lib.hid (HB0.out.trans (hb2.mono HB0.out.size))
 replace HPB := Lib.hid (HPB.out.below hb2 HPB.out.lt)
 replace HRB := Lib.hid (HRB.out.below hb2 HRB.out.lt)
 replace HV := Lib.hid (VcsT.lift HV.out hb2)
 clear hb2 z0 z1 HCY
 obtain ⟨z0, z1⟩ := cel2 HPB.out
 go_wp2_with fail
 refine (HCL.out _ HB0.out).mono ?_
 rintro e w3 ⟨⟨AQ, cq, rfl, htr⟩, hb3⟩
 replace HB0 := Lib.hid (HB0.out.trans (hb3.mono HB0.out.size))
 replace HPB := Lib.hid (HPB.out.below hb3 HPB.out.lt)
 replace HRB := Lib.hid (HRB.out.below hb3 HRB.out.lt)
 replace HV := Lib.hid (VcsT.lift HV.out hb3)
 clear hb3 z0 z1 HCL
 obtain ⟨z0, z1⟩ := cel2 HPB.out
 obtain ⟨OB, hOB⟩ : ∃ OB, OB = w3.heap.size := ⟨_, rfl⟩
 have HOBE : Box (OB = w3.heap.size) := ⟨hOB⟩
 obtain ⟨W1, hW1⟩ : ∃ W1, W1 = w3.alloc (.cells #[.slice AQ pr.length cq, .slice Option.none 0 0] 29) := ⟨_, rfl⟩
 have HOB : Hid (Cells W1 OB 29 [.slice AQ pr.length cq, .slice Option.none 0 0]) := Lib.hid (by rw [hW1, hOB]; exact Cells.new w3 29 #[.slice AQ pr.length cq, .slice Option.none 0 0])
 have HBO : Hid (Below OB w3 W1) := Lib.hid (by rw [hW1, hOB]; exact (Below.refl _ _).alloc (Nat.le_refl _) _)
 have HIQ := Lib.hid (IRow.of_trow htr)
 rw [← hOB] at HIQ
 have hOBw : w.heap.size + 2 ≤ OB := by have h1 := HRB.out.lt; omega
 clear htr
 go_upto_region 8 with (fail)
 rw [← hW1, ← hOB]
 clear hW1 hOB z0 z1
 have hb31 : Below w3.heap.size w3 W1 := HOBE.out ▸ HBO.out
 have hpb1 := HPB.out.below hb31 HPB.out.lt
 obtain ⟨z0, z1⟩ := cel2 hpb1
 clear hb31 hpb1
 go_upto_region 9 with (fail)
 clear z0 z1
 go_loopw [40] (fun i wr => ∃ (k : Nat) (ov : Value) (us : List Vc), k ≤ vs.length ∧ us.length = k ∧ i = .int .i64 k ∧ Cells wr OB 29 [.slice AQ pr.length cq, ov] ∧ VcO wr (OB + 1) ov us ∧ Box (upVcs pr y vs = (upVcs pr y (vs.drop k)).map (us ++ ·)) ∧ Below OB w3 wr) (fun i _ => vs.length - (intOf i).toNat)
 case atStart => exact ⟨0, _, [], Nat.zero_le _, rfl, rfl, HOB.out, VcO.nil _ _, ⟨map_start _⟩, HBO.out⟩
 case round =>
  clear HOB HBO
  obtain ⟨k, ov, us, hk, hul, rfl, hob, hvo, HK, hbo⟩ := hrel
  have hbw : Below w3.heap.size w3 wr := HOBE.out ▸ hbo
  have HPBr := Lib.hid (HPB.out.below hbw HPB.out.lt)
  have HRBr := Lib.hid (HRB.out.below hbw HRB.out.lt)
  have HBr := Lib.hid (HB0.out.trans (hbw.mono HB0.out.size))
  have HOr := Lib.hid hob
  have HVO := Lib.hid hvo
  have HBO := Lib.hid hbo
  have HUL : Box (us.length = k) := ⟨hul⟩
  clear hul
  by_cases hlt : k < vs.length
  ·have hvr := VcsT.lift HV.out hbw
   obtain ⟨b1, o1, A1, c1, rfl, _, _, q0, q1, h1c, h1m, h1e⟩ := hvr.at_ hlt
   have HE1 := Lib.hid h1e
   have hel := HOK.out.2.1 _ (List.getElem_mem hlt)
   have HNL : Box (∀ x ∈ (vs[k]'hlt).evs, x.notes.length ≤ 12 ∧ ∀ z ∈ x.notes, chkAll pr [z] = 0) := ⟨HOK.out.2.2 _ (List.getElem_mem hlt)⟩
   have HNXT : Box (∀ es, upEvs pr y (vs[k]'hlt).evs = some es → upVcs pr y vs = (upVcs pr y (vs.drop (k + 1))).map ((us ++ [⟨(vs[k]'hlt).name, es⟩]) ++ ·)) := ⟨fun es h => by rw [HK.out, upVcs_ok hlt h]⟩
   have HBAD : Box (upEvs pr y (vs[k]'hlt).evs = none → res = none) := ⟨fun h => by rw [HUP.out, HK.out, upVcs_bad hlt h]; rfl⟩
   have hki : (k : Int) < (vs.length : Int) := by omega
   have hk0 : (0 : Int) ≤ (k : Int) := by omega
   clear hvr h1e hbw hob hvo hbo HK
   unfold maxLen at h1m
   generalize vs[k]'hlt = v at *
   obtain ⟨nm, es⟩ := v
   dsimp only at *
   -- the voice, and the new one
   obtain ⟨VB, hVB⟩ : ∃ VB, VB = wr.heap.size + 1 := ⟨_, rfl⟩
   obtain ⟨W2, hW2⟩ : ∃ W2, W2 = wr.alloc (.cells #[.string ⟨nm.toArray⟩, .slice A1 es.length c1] 48) := ⟨_, rfl⟩
   have hb2 : Below wr.heap.size wr W2 := by rw [hW2]; exact (Below.refl _ _).alloc (Nat.le_refl _) _
   have hs2 : W2.heap.size = VB := by rw [hW2, hVB, World.size_alloc]
   have HVC : Hid (Cells W2 wr.heap.size 48 [.string ⟨nm.toArray⟩, .slice A1 es.length c1]) := Lib.hid (by rw [hW2]; exact Cells.new wr 48 #[.string ⟨nm.toArray⟩, .slice A1 es.length c1])
   obtain ⟨W3, hW3⟩ : ∃ W3, W3 = W2.alloc (.cells #[.string ⟨nm.toArray⟩, .slice Option.none 0 0] 48) := ⟨_, rfl⟩
   have HVB : Hid (Cells W3 VB 48 [.string ⟨nm.toArray⟩, .slice Option.none 0 0]) := Lib.hid (by rw [hW3, ← hs2]; exact Cells.new W2 48 #[.string ⟨nm.toArray⟩, .slice Option.none 0 0])
   have HBV : Hid (Below VB W2 W3) := Lib.hid (by rw [hW3, ← hs2]; exact (Below.refl _ _).alloc (Nat.le_refl _) _)
   have HS2 : Box (W2.heap.size = VB) := ⟨hs2⟩
   have HB2 := Lib.hid hb2
   have HV23 : Hid (Cells W3 wr.heap.size 48 [.string ⟨nm.toArray⟩, .slice A1 es.length c1]) := Lib.hid (HVC.out.below (hs2 ▸ HBV.out : Below W2.heap.size W2 W3) HVC.out.lt)
   have hOBv : OB < VB := by have := HOr.out.lt; omega
   clear hb2 hs2
   go_upto_region 11 with (fail)
   rw [← hW2]
   obtain ⟨v0, v1⟩ := cel2 HVC.out
   go_upto_region 12 with (fail)
   rw [← hVB, ← hW2, ← hW3]
   clear hW2 hW3 v0 v1 q0 q1 hVB
   obtain ⟨v0, v1⟩ := cel2 HV23.out
   go_upto_region 13 with (fail)
   clear v0 v1 HVC
   go_loopw [50] (fun i wx => ∃ (j : Nat) (ev : Value) (ds : List Ev), j ≤ es.length ∧ ds.length = j ∧ i = .int .i64 j ∧ Cells wx VB 48 [.string ⟨nm.toArray⟩, ev] ∧ EvO wx (VB + 1) ev ds ∧ Box (upEvs pr y es = (upEvs pr y (es.drop j)).map (ds ++ ·)) ∧ Below VB W2 wx) (fun i _ => es.length - (intOf i).toNat)
   case atStart => exact ⟨0, _, [], Nat.zero_le _, rfl, rfl, HVB.out, EvO.nil _ _, ⟨map_start _⟩, HBV.out⟩
   case round =>
    rename World => wx
    clear HVB HBV
    obtain ⟨j, ev, ds, hj, hdl, rfl, hvb, hevo, HJ, hbv⟩ := hrel
    have hbx2 : Below W2.heap.size W2 wx := HS2.out ▸ hbv
    have hbx := HB2.out.trans (hbx2.mono HB2.out.size)
    have HBX := Lib.hid hbx
    have HPBx := Lib.hid (HPBr.out.below hbx HPBr.out.lt)
    have HRBx := Lib.hid (HRBr.out.below hbx HRBr.out.lt)
    have HBxw := Lib.hid (HBr.out.trans (hbx.mono HBr.out.size))
    have HOx := Lib.hid (HOr.out.below hbx HOr.out.lt)
    have HVOx := Lib.hid (HVO.out.below hbx)
    have HVBx := Lib.hid hvb
    have HEVx := Lib.hid hevo
    have HBVx := Lib.hid hbv
    have HDL : Box (ds.length = j) := ⟨hdl⟩
    clear hdl
    by_cases hjl : j < es.length
    ·have her := EvsT.lift HE1.out hbx
     obtain ⟨b2, o2, A2, c2, rfl, _, _, r0, r1, r2, h2c, h2m, h2n⟩ := her.at_ hjl
     have HN2 := Lib.hid h2n
     obtain ⟨hn12, hnc⟩ := HNL.out _ (List.getElem_mem hjl)
     have HNC : Box (∀ z ∈ (es[j]'hjl).notes, chkAll pr [z] = 0) := ⟨hnc⟩
     have HJN : Box (∀ ns, upNs pr y (es[j]'hjl).notes = some ns → upEvs pr y es = (upEvs pr y (es.drop (j + 1))).map ((ds ++ [⟨(es[j]'hjl).num, (es[j]'hjl).den, ns⟩]) ++ ·)) := ⟨fun ns h => by rw [HJ.out, upEvs_ok hjl h]⟩
     have HJB : Box (upNs pr y (es[j]'hjl).notes = none → res = none) := ⟨fun h => HBAD.out (by rw [HJ.out, upEvs_bad hjl h]; rfl)⟩
     have hji : (j : Int) < (es.length : Int) := by omega
     have hj0 : (0 : Int) ≤ (j : Int) := by omega
     clear her h2n hnc hbx hbx2 hvb hevo hbv HJ
     unfold maxLen at h2m
     generalize es[j]'hjl = x at *
     obtain ⟨tn, td, ns⟩ := x
     dsimp only at *
     obtain ⟨XB, hXB⟩ : ∃ XB, XB = wx.heap.size + 1 := ⟨_, rfl⟩
     obtain ⟨W4, hW4⟩ : ∃ W4, W4 = wx.alloc (.cells #[.string ⟨tn.toArray⟩, .string ⟨td.toArray⟩, .slice A2 ns.length c2] 54) := ⟨_, rfl⟩
     have hb4 : Below wx.heap.size wx W4 := by rw [hW4]; exact (Below.refl _ _).alloc (Nat.le_refl _) _
     have hs4 : W4.heap.size = XB := by rw [hW4, hXB, World.size_alloc]
     have HXC : Hid (Cells W4 wx.heap.size 54 [.string ⟨tn.toArray⟩, .string ⟨td.toArray⟩, .slice A2 ns.length c2]) := Lib.hid (by rw [hW4]; exact Cells.new wx 54 #[.string ⟨tn.toArray⟩, .string ⟨td.toArray⟩, .slice A2 ns.length c2])
     obtain ⟨W5, hW5⟩ : ∃ W5, W5 = W4.alloc (.cells #[.string ⟨tn.toArray⟩, .string ⟨td.toArray⟩, .slice Option.none 0 0] 54) := ⟨_, rfl⟩
     have HXB : Hid (Cells W5 XB 54 [.string ⟨tn.toArray⟩, .string ⟨td.toArray⟩, .slice Option.none 0 0]) := Lib.hid (by rw [hW5, ← hs4]; exact Cells.new W4 54 #[.string ⟨tn.toArray⟩, .string ⟨td.toArray⟩, .slice Option.none 0 0])
     have HBX5 : Hid (Below XB W4 W5) := Lib.hid (by rw [hW5, ← hs4]; exact (Below.refl _ _).alloc (Nat.le_refl _) _)
     have HS4 : Box (W4.heap.size = XB) := ⟨hs4⟩
     have HB4 := Lib.hid hb4
     have HX45 : Hid (Cells W5 wx.heap.size 54 [.string ⟨tn.toArray⟩, .string ⟨td.toArray⟩, .slice A2 ns.length c2]) := Lib.hid (HXC.out.below (hs4 ▸ HBX5.out : Below W4.heap.size W4 W5) HXC.out.lt)
     have hVX : VB < XB := by have := HVBx.out.lt; omega
     clear hb4 hs4
     go_upto_region 15 with (fail)
     rw [← hW4]
     obtain ⟨v0, v1, v2⟩ := cel3 HXC.out
     go_upto_region 16 with (fail)
     rw [← hXB, ← hW4, ← hW5]
     clear hW4 hW5 v0 v1 v2 r0 r1 r2 hXB
     obtain ⟨v0, v1, v2⟩ := cel3 HX45.out
     go_upto_region 17 with (fail)
     clear v0 v1 v2 HXC
     go_loopw [60] (fun i wy => ∃ (m : Nat) (nv : Value) (ms : List (List Int)), m ≤ ns.length ∧ ms.length = m ∧ i = .int .i64 m ∧ Cells wy XB 54 [.string ⟨tn.toArray⟩, .string ⟨td.toArray⟩, nv] ∧ NtO wy (XB + 1) nv ms ∧ Box (upNs pr y ns = (upNs pr y (ns.drop m)).map (ms ++ ·)) ∧ Below XB W4 wy) (fun i _ => ns.length - (intOf i).toNat)
     case atStart => exact ⟨0, _, [], Nat.zero_le _, rfl, rfl, HXB.out, NtO.nil _ _, ⟨map_start _⟩, HBX5.out⟩
     case round =>
      rename World => wy
      clear HXB HBX5
      obtain ⟨m, nv, ms, hml, hmsl, rfl, hxb, hnt, HM, hbx5⟩ := hrel
      have hby4 : Below W4.heap.size W4 wy := HS4.out ▸ hbx5
      have hby := HB4.out.trans (hby4.mono HB4.out.size)
      have HBY := Lib.hid hby
      have HPBy := Lib.hid (HPBx.out.below hby HPBx.out.lt)
      have HRBy := Lib.hid (HRBx.out.below hby HRBx.out.lt)
      have HByw := Lib.hid (HBxw.out.trans (hby.mono HBxw.out.size))
      have HXBy := Lib.hid hxb
      have HNTy := Lib.hid hnt
      have HBXy := Lib.hid hbx5
      have HML : Box (ms.length = m) := ⟨hmsl⟩
      clear hmsl
      by_cases hmlt : m < ns.length
      ·have hnr := NotesT.lift HN2.out hby
       obtain ⟨b3, o3, rv, rfl, _, _, g0, hir⟩ := hnr.at_ hmlt
       have hcx := HNC.out _ (List.getElem_mem hmlt)
       have HMN : Box (chkAll pr [upN y (ns[m]'hmlt)] = 0 → upNs pr y ns = (upNs pr y (ns.drop (m + 1))).map ((ms ++ [upN y (ns[m]'hmlt)]) ++ ·)) := ⟨fun h => by rw [HM.out, upNs_ok hmlt h]⟩
       have HMB : Box (chkAll pr [upN y (ns[m]'hmlt)] ≠ 0 → res = none) := ⟨fun h => HJB.out (by rw [HM.out, upNs_bad hmlt h]; rfl)⟩
       have HAD := Lib.hid (HADD.out rv (ns[m]'hmlt) wy HByw.out hir.row hcx)
       obtain ⟨A3, c3, rfl, _⟩ := hir.shape
       have hmi : (m : Int) < (ns.length : Int) := by omega
       have hm0 : (0 : Int) ≤ (m : Int) := by omega
       obtain ⟨z0, z1⟩ := cel2 HPBy.out
       clear hnr hir hcx hby hby4 hxb hnt hbx5 HM
       generalize upN y (ns[m]'hmlt) = up at *
       generalize (ns[m]'hmlt).length = xl at *
       go_wp2_with fail
       refine HAD.out.mono ?_
       rintro e w6 ⟨hpost, hb6⟩
       have HB6 := Lib.hid hb6
       have HXB6 := Lib.hid (HXBy.out.below hb6 HXBy.out.lt)
       have HNT6 := Lib.hid (HNTy.out.below hb6)
       have HRB6 := Lib.hid (HRBy.out.below hb6 HRBy.out.lt)
       have HBw6 := Lib.hid (HByw.out.trans (hb6.mono HByw.out.size))
       have HBX6 := Lib.hid (HBXy.out.trans (hb6.mono (Nat.le_of_lt HXBy.out.lt)))
       clear hb6 z0 z1 g0
       rcases hpost with ⟨hz, AU, cU, rfl, htr⟩ | ⟨hz, rfl⟩
       ·have HMK := Box.mk (HMN.out hz)
        have HIU := Lib.hid (IRow.of_trow htr)
        obtain ⟨css, hlo⟩ := HNT6.out
        have hown := hlo.own
        rw [HML.out] at hown
        have HLO := Lib.hid hlo
        obtain ⟨x0, x1, x2⟩ := cel3 HXB6.out
        have hxw : XB < w6.heap.size := HXB6.out.lt
        clear htr hz hlo HMN HMB HAD
        generalize hul : up.length = ul at *
        clear hul
        go_wp2_with (at_builtin; refine wpList_append_own _ rfl _ _ _ rfl (XB + 1) 40 i0 (.slice Option.none 0 0) 1 24 Tryz.underlying52 hi0 hz0 hz1 hz2 rfl (by decide) _ _ _ rfl (hown.alloc _) ⟨w6.heap.size, 0, Option.none⟩ 1 1 [.slice AU ul cU] rfl rfl (World.news_of_block (cs := #[.slice AU ul cU]) (t := 40) (fr := (0, 0)) (heap_alloc_new w6 _)) (by simp [Value.oneCell']) (by unfold maxLen; omega) (by omega) (by simp; omega) ?_; intro v9 w9 hown9 hg9 _; obtain ⟨g9, c9, rfl, _, _⟩ := hown9.form (by omega); obtain ⟨hxB, hloB, hxN, hbN⟩ := cell_grow (j := 2) (Q := fun w => NoteQ w w.heap.size) (x := up) (cs := [.slice AU ul cU]) (fun hk h => h.keep hk (by decide) hk.size) HLO.out HXB6.out (by decide) ⟨_, rfl, HIU.out⟩ rfl hg9 (by rw [HML.out]; exact hown9); have fB := hxB.free 2; obtain ⟨_, _, sB⟩ := cel3 hxB)
        have HXN := Lib.hid hxN
        have HLN := Lib.hid hloB
        have HBN := Lib.hid (HBX6.out.trans (hbN XB (Nat.le_succ _) (Nat.le_refl _) (Nat.le_of_lt hxw)))
        clear hxB hloB hxN hbN fB sB
        go_roundw
        case rel => exact ⟨m + 1, _, ms ++ [up], by omega, by rw [List.length_append, HML.out]; rfl, by go_num, HXN.out, ⟨_, HLN.out⟩, HMK, HBN.out⟩
        case measure => simp [intOf]; omega
       ·have HNONE := Box.mk (HMB.out hz)
        have HRF := HRB6
        have HBF := HBw6
        clear hz HMN HMB HAD
        obtain ⟨r0, r1⟩ := cel2 HRF.out
        have f0 := HRF.out.free 0
        have f1 := HRF.out.free 1
        go_wp2_with fail
        have hset := (HRF.out.set 0 (.slice Option.none 0 0)).set 1 (.slice Option.none 0 0)
        obtain ⟨t0, t1⟩ := cel2 hset
        refine bodyPost_ret (v := .tuple #[.agg #[.slice Option.none 0 0, .slice Option.none 0 0], .int .i64 4]) (by simp (maxDischargeDepth := 10) [results, Tryz.results12, go_sem, t0, t1]) rfl ⟨?_, ?_⟩
        ·rw [HTP.out]
         rw [HNONE.out] <;> exact rfl
        ·exact (HBF.out.setCell (p := ⟨w.heap.size + 1, 0, Option.none⟩) (Nat.le_succ _) _).setCell (p := ⟨w.heap.size + 1, 1, Option.none⟩) (Nat.le_succ _) _
      ·obtain rfl : m = ns.length := by omega
       have HMK : Box (upNs pr y ns = some ms) := ⟨by rw [HM.out, List.drop_length]; exact map_end ms⟩
       obtain ⟨AN, cN, rfl, hN1, hN2, hN3⟩ := hnt.shape
       have hvby := HVBx.out.below hby HVBx.out.lt
       obtain ⟨css, hlo⟩ := HEVx.out.below hby
       have hown := hlo.own
       rw [HDL.out] at hown
       have HQE := Lib.hid (show EvQ wy wy.heap.size ⟨tn, td, ms⟩ [.string ⟨tn.toArray⟩, .string ⟨td.toArray⟩, .slice AN ms.length cN] from ⟨AN, cN, rfl, hN1, hN2, hN3⟩)
       have HLOv := Lib.hid hlo
       have HVy := Lib.hid hvby
       obtain ⟨s0, s1⟩ := cel2 hvby
       obtain ⟨x0, x1, x2⟩ := cel3 hxb
       have hvw : VB < wy.heap.size := hvby.lt
       have HBVy := Lib.hid (HBVx.out.trans (hby.mono (Nat.le_of_lt HVBx.out.lt)))
       have HEK := Box.mk (HJN.out ms HMK.out)
       clear hxb hnt hby hby4 hbx5 hN1 hN2 hN3 hlo hvby HMK HM
       generalize hmsl : ms.length = msl at *
       clear hmsl
       go_wp2_with (at_builtin; refine wpList_append_own _ rfl _ _ _ rfl (VB + 1) 54 je (.agg #[.string ⟨#[]⟩, .string ⟨#[]⟩, .slice Option.none 0 0]) 3 56 Tryz.underlying46 hie gz0 gz1 gz2 rfl (by decide) _ _ _ rfl (hown.alloc _) ⟨wy.heap.size, 0, Option.none⟩ 1 1 [.string ⟨tn.toArray⟩, .string ⟨td.toArray⟩, .slice AN msl cN] rfl rfl (World.news_of_block (cs := #[.string ⟨tn.toArray⟩, .string ⟨td.toArray⟩, .slice AN msl cN]) (t := 54) (fr := (0, 0)) (heap_alloc_new wy _)) (by simp [Value.oneCell']) (by unfold maxLen; omega) (by omega) (by simp; omega) ?_; intro v9 w9 hown9 hg9 _; obtain ⟨g9, c9, rfl, _, _⟩ := hown9.form (by omega); obtain ⟨hxB, hloB, hxN, hbN⟩ := cell_grow (j := 1) (Q := fun w => EvQ w w.heap.size) (x := ⟨tn, td, ms⟩) (fun hk h => h.keep hk (by decide) (by decide) hk.size) HLOv.out HVy.out (by decide) HQE.out rfl hg9 (by rw [HDL.out]; exact hown9); have fB := hxB.free 1; obtain ⟨_, sB⟩ := cel2 hxB)
       have HXN := Lib.hid hxN
       have HLN := Lib.hid hloB
       have HBN := Lib.hid (HBVy.out.trans (hbN VB (Nat.le_succ _) (Nat.le_refl _) (Nat.le_of_lt hvw)))
       clear hxB hloB hxN hbN fB sB
       go_roundw
       case rel => exact ⟨j + 1, _, ds ++ [⟨tn, td, ms⟩], by omega, by rw [List.length_append, HDL.out]; rfl, by go_num, HXN.out, ⟨_, HLN.out⟩, HEK, HBN.out⟩
       case measure => simp [intOf]; omega
    ·obtain rfl : j = es.length := by omega
     have HEK : Box (upEvs pr y es = some ds) := ⟨by rw [HJ.out, List.drop_length]; exact map_end ds⟩
     obtain ⟨AE, cE, rfl, hE1, hE2, hE3⟩ := hevo.shape
     obtain ⟨css, hlo⟩ := HVOx.out
     have hown := hlo.own
     rw [HUL.out] at hown
     have HQV := Lib.hid (show VcQ wx wx.heap.size ⟨nm, ds⟩ [.string ⟨nm.toArray⟩, .slice AE ds.length cE] from ⟨AE, cE, rfl, hE1, hE2, hE3⟩)
     have HLOv := Lib.hid hlo
     obtain ⟨s0, s1⟩ := cel2 HOx.out
     obtain ⟨x0, x1⟩ := cel2 hvb
     have hsw : OB < wx.heap.size := HOx.out.lt
     have HBSx := Lib.hid (HBO.out.trans (hbx.mono (Nat.le_of_lt HOr.out.lt)))
     have HVK := Box.mk (HNXT.out ds HEK.out)
     clear hvb hevo hbv hbx hbx2 hE1 hE2 hE3 hlo HEK HJ
     generalize hdsl : ds.length = dsl at *
     clear hdsl
     go_wp2_with (at_builtin; refine wpList_append_own _ rfl _ _ _ rfl (OB + 1) 48 kv (.agg #[.string ⟨#[]⟩, .slice Option.none 0 0]) 2 40 Tryz.underlying27 hiv fz0 fz1 fz2 rfl (by decide) _ _ _ rfl (hown.alloc _) ⟨wx.heap.size, 0, Option.none⟩ 1 1 [.string ⟨nm.toArray⟩, .slice AE dsl cE] rfl rfl (World.news_of_block (cs := #[.string ⟨nm.toArray⟩, .slice AE dsl cE]) (t := 48) (fr := (0, 0)) (heap_alloc_new wx _)) (by simp [Value.oneCell']) (by unfold maxLen; omega) (by omega) (by simp; omega) ?_; intro v9 w9 hown9 hg9 _; obtain ⟨g9, c9, rfl, _, _⟩ := hown9.form (by omega); obtain ⟨hxB, hloB, hxN, hbN⟩ := cell_grow (j := 1) (Q := fun w => VcQ w w.heap.size) (x := ⟨nm, ds⟩) (fun hk h => h.keep hk (by decide) (by decide) (by decide) hk.size) HLOv.out HOx.out (by decide) HQV.out rfl hg9 (by rw [HUL.out]; exact hown9); have fB := hxB.free 1; obtain ⟨_, sB⟩ := cel2 hxB)
     have HXN := Lib.hid hxN
     have HLN := Lib.hid hloB
     have HBN := Lib.hid (HBSx.out.trans (hbN OB (Nat.le_succ _) (Nat.le_refl _) (Nat.le_of_lt hsw)))
     clear hxB hloB hxN hbN fB sB
     go_roundw
     case rel => exact ⟨k + 1, _, us ++ [⟨nm, ds⟩], by omega, by rw [List.length_append, HUL.out]; rfl, by go_num, HXN.out, ⟨_, HLN.out⟩, HVK, HBN.out⟩
     case measure => simp [intOf]; omega
  ·obtain rfl : k = vs.length := by omega
   have HRES : Box (res = some ⟨pr, us⟩) := ⟨by rw [HUP.out, HK.out, List.drop_length, show upVcs pr y [] = some [] from rfl, map_end us]⟩
   obtain ⟨y0, y1⟩ := cel2 HRBr.out
   have f0 := HRBr.out.free 0
   have f1 := HRBr.out.free 1
   obtain ⟨x0, x1⟩ := cel2 hob
   obtain ⟨AV, cV, rfl, hV1, hV2, hV3⟩ := hvo.shape
   have HSV := Lib.hid (show ScV wr wr.heap.size (.slice AQ pr.length cq) (.slice AV us.length cV) ⟨pr, us⟩ from ⟨(HIQ.out.keep (E := []) (KpT.of_below hbo) (by simp) (Nat.le_of_lt hob.lt)), AV, cV, rfl, hV1, hV2, hV3⟩)
   clear hob hvo hbo hbw hV1 hV2 hV3 HK
   generalize hml : us.length = ml at *
   clear hml
   go_wp2_with fail
   have hset := (HRBr.out.set 0 (.slice AQ pr.length cq)).set 1 (.slice AV ml cV)
   have hk : KpT [29] wr.heap.size wr ((wr.setCell ⟨w.heap.size + 1, 0, Option.none⟩ (.slice AQ pr.length cq)).setCell ⟨w.heap.size + 1, 1, Option.none⟩ (.slice AV ml cV)) := ((KpT.refl _ _ _).setCell (TyB.of_cells HRBr.out) (by simp) _).setCell (TyB.of_cells (HRBr.out.set 0 (.slice AQ pr.length cq))) (by simp) _
   obtain ⟨t0, t1⟩ := cel2 hset
   refine bodyPost_ret (v := .tuple #[.agg #[.slice AQ pr.length cq, .slice AV ml cV], .int .i64 0]) (by simp (maxDischargeDepth := 10) [results, Tryz.results12, go_sem, t0, t1]) rfl ⟨?_, ?_⟩
   ·rw [HTP.out, HRES.out]
    exact ⟨_, _, rfl, HSV.out.keep hk (by decide) (by decide) (by decide) (by decide) hk.size⟩
   ·exact (HBr.out.setCell (p := ⟨w.heap.size + 1, 0, Option.none⟩) (Nat.le_succ _) _).setCell (p := ⟨w.heap.size + 1, 1, Option.none⟩) (Nat.le_succ _) _

theorem itoa_le (n : Int) : (itoa n).length ≤ (decDigits n.natAbs).length + 1 := by
 unfold itoa
 split
 ·simp
 ·rw [show n.toNat = n.natAbs by omega]; omega
theorem ScSm.of_ok {s : Sc} (h : ScOk s) : ScSm s := by
 refine ⟨by have := h.vcs; omega, fun v hv => ?_, fun v hv => by have := h.evs v hv; omega, fun v hv x hx => ?_⟩
 ·have hn := h.name v hv
  unfold nameB at hn
  split at hn
  ·cases hn
  ·rename_i c r hr
   rw [hr]
   simp only [Bool.and_eq_true, decide_eq_true_eq] at hn
   have := hn.1
   simp
   omega
 ·obtain ⟨⟨n, d, h1, h2, h3, h4, _⟩, h5, _⟩ := h.ev v hv x hx
  have h6 := itoa_le n
  have h7 := itoa_le d
  rw [h1, h2]
  exact ⟨by omega, by omega, by omega⟩

/-- What Transpose answers for a right score: the error, and the score. -/
def trE (y : List Int) (s : Sc) : Int := if chkAll s.primes [y] ≠ 0 then chkAll s.primes [y] else match upSc y s with | some _ => 0 | none => 4
def trS (y : List Int) (s : Sc) : Sc := if chkAll s.primes [y] ≠ 0 then ⟨[], []⟩ else match upSc y s with | some u => u | none => ⟨[], []⟩
theorem scTrans_any (pv vv yv : Value) (y : List Int) (s : Sc) (w : World) (hS : Std w) (h : ScV w w.heap.size pv vv s) (hyv : IsRow w w.heap.size yv y) (hm : ScSm s) (he : scErr s = 0) :
  Calls Tryz.prog 12 #[.agg #[pv, vv], yv] w fun e w' => (∃ pu vu, e = .returned (.tuple #[.agg #[pu, vu], .int .i64 (trE y s)]) ∧ ScV w' w'.heap.size pu vu (trS y s)) ∧ Below w.heap.size w w' := by
 by_cases hy : chkAll s.primes [y] = 0
 ·refine (scTrans_ok pv vv yv y s w hS h hyv hm he hy).mono fun e w' ⟨h1, h2⟩ => ⟨?_, h2⟩
  unfold trE trS
  rw [if_neg (by rw [hy]; simp), if_neg (by rw [hy]; simp)]
  unfold TrPost at h1
  cases hu : upSc y s with
  | none =>
    rw [hu] at h1
    exact ⟨_, _, h1, IRow.nil _ _, Option.none, 0, rfl, Nat.le_refl _, Nat.zero_le _, LT.nil _ _ _⟩
  | some u =>
    rw [hu] at h1
    exact h1
 ·refine (scTrans_bad pv vv yv y s w hS h hyv hm he hy).mono fun e w' ⟨h1, h2⟩ => ⟨?_, h2⟩
  unfold trE trS
  rw [if_pos hy, if_pos hy]
  exact ⟨_, _, h1, IRow.nil _ _, Option.none, 0, rfl, Nat.le_refl _, Nat.zero_le _, LT.nil _ _ _⟩
theorem trE_bad {y : List Int} {s : Sc} (h : chkAll s.primes [y] ≠ 0) : trE y s = chkAll s.primes [y] := by unfold trE; rw [if_pos h]
theorem trE_none {y : List Int} {s : Sc} (h : chkAll s.primes [y] = 0) (hu : upVcs s.primes y s.voices = none) : trE y s = 4 := by
 unfold trE upSc
 rw [if_neg (by rw [h]; simp), hu]
theorem trE_some {y : List Int} {s : Sc} {m : List Vc} (h : chkAll s.primes [y] = 0) (hu : upVcs s.primes y s.voices = some m) : trE y s = 0 ∧ trS y s = ⟨s.primes, m⟩ ∧ upSc y s = some ⟨s.primes, m⟩ := by
 unfold trE trS upSc
 rw [if_neg (by rw [h]; simp), if_neg (by rw [h]; simp), hu]
 exact ⟨rfl, rfl, rfl⟩
theorem trS_bad {y : List Int} {s : Sc} (h : trE y s ≠ 0) : trS y s = ⟨[], []⟩ := by
 unfold trE at h
 unfold trS
 split
 ·rfl
 ·rename_i h1
  rw [if_neg h1] at h
  cases hu : upSc y s with
  | none => rfl
  | some u => rw [hu] at h; exact absurd rfl h

end Go.Proofs.YtaaeekahhhookaaGreatDoor
