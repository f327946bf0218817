import Derived.Test.YtaaeekahhhookaaGreatDoorGXFMCk
import Derived.Test.YtaaeekahhhookaaGreatDoorScUCk
import Derived.Deep.RegionHeld3
namespace Go.Proofs.YtaaeekahhhookaaGreatDoor
open Go.RowKit Go.Lib
noncomputable def dq {α : Type} (a b : α) : Bool := @decide (a = b) (Classical.propDecidable _)
section
variable {α : Type}
theorem dq_iff {a b : α} : dq a b = true ↔ a = b := by unfold dq; simp
theorem dq_self (a : α) : dq a a = true := dq_iff.2 rfl
theorem dq_ne {a b : α} (h : a ≠ b) : dq a b = false := by
 cases e : dq a b with
 | false => rfl
 | true => exact absurd (dq_iff.1 e) h
theorem dq_len {l m : List α} (h : l.length ≠ m.length) : dq l m = false := dq_ne fun e => h (by rw [e])
theorem dq_two {β γ : Type} {a b : α} {c d : β} {e f : γ} (h : a = b ↔ c = d ∧ e = f) : dq a b = (dq c d && dq e f) := by
 by_cases h1 : c = d
 ·by_cases h2 : e = f
  ·rw [dq_iff.2 h1, dq_iff.2 h2, dq_iff.2 (h.2 ⟨h1, h2⟩)]; rfl
  ·rw [dq_ne h2, Bool.and_false, dq_ne fun e => h2 (h.1 e).2]
 ·rw [dq_ne h1, Bool.false_and, dq_ne fun e => h1 (h.1 e).1]
theorem dq_cons (a b : α) (l m : List α) : dq (a :: l) (b :: m) = (dq a b && dq l m) := dq_two (by simp)
theorem dq_drop {l m : List α} {k : Nat} (h1 : k < l.length) (h2 : k < m.length) : dq (l.drop k) (m.drop k) = (dq (l[k]'h1) (m[k]'h2) && dq (l.drop (k + 1)) (m.drop (k + 1))) := by
 rw [List.drop_eq_getElem_cons h1, List.drop_eq_getElem_cons h2, dq_cons]
theorem dq_end {l m : List α} {k : Nat} (h1 : l.length ≤ k) (h2 : m.length ≤ k) : dq (l.drop k) (m.drop k) = true := by
 rw [List.drop_eq_nil_of_le h1, List.drop_eq_nil_of_le h2]
 exact dq_self _
end
theorem dq_sc (s t : Sc) : dq s t = (dq s.primes t.primes && dq s.voices t.voices) := dq_two (by cases s; cases t; simp)
theorem dq_vc (s t : Vc) : dq s t = (dq s.name t.name && dq s.evs t.evs) := dq_two (by cases s; cases t; simp)
theorem dq_ev (s t : Ev) : dq s t = (dq (s.num, s.den) (t.num, t.den) && dq s.notes t.notes) := dq_two (by cases s; cases t; simp [and_assoc])
theorem dq_str (a b : List UInt8) : dq a b = (a == b) := by
 by_cases h : a = b
 ·subst h; rw [dq_self]; simp
 ·rw [dq_ne h]; symm; simpa using h
theorem dq_row (a b : List Int) : dq a b = sameB a b := by
 unfold sameB
 by_cases h : a = b
 ·rw [dq_iff.2 h, decide_eq_true h]
 ·rw [dq_ne h, decide_eq_false h]
theorem dq_pair (a b c d : List UInt8) : dq (a, b) (c, d) = ((a == c) && (b == d)) := by
 rw [← dq_str, ← dq_str]
 exact dq_two (by simp)
end Go.Proofs.YtaaeekahhhookaaGreatDoor
namespace Go.Proofs.YtaaeekahhhookaaGreatDoor
open Go.RowKit Go.Lib
set_option maxRecDepth 100000 in
set_option maxHeartbeats 8000000 in
theorem equal48U (pv1 vv1 pv2 vv2 : Value) (s t : Sc) (w : World) (h1 : ScU w pv1 vv1 s) (h2 : ScU w pv2 vv2 t) (he : ∀ v ∈ s.voices, v.evs.length ≤ 1000000 ∧ ∀ x ∈ v.evs, x.notes.length ≤ 1000000) :
  Calls Tryz.prog 9 #[.agg #[pv1, vv1], .agg #[pv2, vv2]] w fun e w' => e = .returned (.bool (dq s t)) ∧ Below w.heap.size w w' := by
 obtain ⟨hp1, AV, cV, rfl, hc1, hm1, hvt1⟩ := h1
 obtain ⟨hp2, BV, dV, rfl, hc2, hm2, hvt2⟩ := h2
 have HP1 := Lib.hid hp1
 have HP2 := Lib.hid hp2
 obtain ⟨AP, cp, rfl, _⟩ := hp1.shape
 obtain ⟨BP, dp, rfl, _⟩ := hp2.shape
 have HV1 := Lib.hid hvt1
 have HV2 := Lib.hid hvt2
 have HEV : Box (∀ k (hk : k < s.voices.length), (s.voices[k]'hk).evs.length ≤ 1000000 ∧ ∀ x ∈ (s.voices[k]'hk).evs, x.notes.length ≤ 1000000) := ⟨fun k hk => he _ (List.getElem_mem hk)⟩
 have HOUT : Box (dq s t = (sameB s.primes t.primes && dq s.voices t.voices)) := ⟨by rw [dq_sc, dq_row]⟩
 obtain ⟨W0, hW0⟩ : ∃ W0, W0 = (w.alloc (.cells #[.slice AP s.primes.length cp, .slice AV s.voices.length cV] 29)).alloc (.cells #[.slice BP t.primes.length dp, .slice BV t.voices.length dV] 29) := ⟨_, rfl⟩
 have hb0 : Below w.heap.size w W0 := by rw [hW0]; exact ((Below.refl _ _).alloc (Nat.le_refl _) _).alloc (by simp) _
 have HX1 : Hid (Cells W0 w.heap.size 29 [.slice AP s.primes.length cp, .slice AV s.voices.length cV]) := Lib.hid (by rw [hW0]; exact (Cells.new w 29 #[.slice AP s.primes.length cp, .slice AV s.voices.length cV]).alloc _)
 have HX2 : Hid (Cells W0 (w.heap.size + 1) 29 [.slice BP t.primes.length dp, .slice BV t.voices.length dV]) := Lib.hid (by
  have h := Cells.new (w.alloc (.cells #[.slice AP s.primes.length cp, .slice AV s.voices.length cV] 29)) 29 #[.slice BP t.primes.length dp, .slice BV t.voices.length dV]
  rw [World.size_alloc] at h
  rw [hW0]
  exact h)
 have HB0 := Lib.hid hb0
 unfold maxLen at hm1 hm2
 clear hp1 hp2 hvt1 hvt2 hb0 he
 generalize dq s t = out at *
 go_enter Tryz.func9, Tryz.ntmps9
 go_upto_region 1 with (fail)
 rw [← hW0]
 clear hW0
 obtain ⟨z0, z1⟩ := cel2 HX1.out
 obtain ⟨y0, y1⟩ := cel2 HX2.out
 go_wp2_with fail
 refine (same_any _ _ s.primes t.primes W0 ((HP1.out.lift HB0.out).row) ((HP2.out.lift HB0.out).row)).mono ?_
 rintro e w1 ⟨rfl, hb1⟩
 have HB1 := Lib.hid (HB0.out.trans (hb1.mono HB0.out.size))
 replace HX1 := Lib.hid (HX1.out.below hb1 HX1.out.lt)
 replace HX2 := Lib.hid (HX2.out.below hb1 HX2.out.lt)
 clear hb1 z0 z1 y0 y1 HB0 HP1 HP2
 cases hsb : sameB s.primes t.primes with
 | false =>
   have HF : Box (out = false) := ⟨by rw [HOUT.out, hsb]; rfl⟩
   clear HOUT hsb
   go_wp2_with fail
   go_ret
   exact ⟨ret1 (congrArg Value.bool HF.out.symm), HB1.out⟩
 | true =>
 by_cases hlen : s.voices.length = t.voices.length
 case neg =>
  have HF : Box (out = false) := ⟨by rw [HOUT.out, dq_len hlen, Bool.and_false]⟩
  have hlb : ((s.voices.length : Int) != (t.voices.length : Int)) = true := by simpa using (fun h : (s.voices.length : Int) = (t.voices.length : Int) => hlen (by omega))
  obtain ⟨z0, z1⟩ := cel2 HX1.out
  obtain ⟨y0, y1⟩ := cel2 HX2.out
  clear HOUT hsb hlen
  go_wp2_with fail
  go_ret
  exact ⟨ret1 (congrArg Value.bool HF.out.symm), HB1.out⟩
 case pos =>
 have HLT : Box (s.voices.length = t.voices.length) := ⟨hlen⟩
 have HOT : Box (out = dq s.voices t.voices) := ⟨by rw [HOUT.out, hsb, Bool.true_and]⟩
 rw [← hlen] at HX2 hc2
 clear hlen hsb HOUT
 obtain ⟨z0, z1⟩ := cel2 HX1.out
 obtain ⟨y0, y1⟩ := cel2 HX2.out
 go_upto_region 4 with (fail)
 clear z0 z1 y0 y1
 go_loopw [5] (fun i wr => ∃ k : Nat, k ≤ s.voices.length ∧ i = .int .i64 k ∧ Box (out = dq (s.voices.drop k) (t.voices.drop k)) ∧ Cells wr w.heap.size 29 [.slice AP s.primes.length cp, .slice AV s.voices.length cV] ∧ Cells wr (w.heap.size + 1) 29 [.slice BP t.primes.length dp, .slice BV s.voices.length dV] ∧ Below w.heap.size w wr) (fun i _ => s.voices.length - (intOf i).toNat)
 case atStart => exact ⟨0, Nat.zero_le _, rfl, ⟨by rw [List.drop_zero, List.drop_zero]; exact HOT.out⟩, HX1.out, HX2.out, HB1.out⟩
 case round =>
  clear HX1 HX2 HB1 HOT
  obtain ⟨k, hk, rfl, HK, hx1, hx2, hbw⟩ := hrel
  have HX1 := Lib.hid hx1
  have HX2 := Lib.hid hx2
  have HBW := Lib.hid hbw
  obtain ⟨z0, z1⟩ := cel2 hx1
  obtain ⟨y0, y1⟩ := cel2 hx2
  have hx2l := hx2.lt
  by_cases hkl : k < s.voices.length
  ·have hkl2 : k < t.voices.length := by have := HLT.out; omega
   obtain ⟨b1, o1, A1, C1, rfl, _, _, q0, q1, h1c, h1m, hev1⟩ := HV1.out.at_ hkl
   obtain ⟨b2, o2, A2, C2, rfl, _, _, r0, r1, h2c, h2m, hev2⟩ := HV2.out.at_ hkl2
   have HKN : Box (out = ((dq (s.voices[k]'hkl).name (t.voices[k]'hkl2).name && dq (s.voices[k]'hkl).evs (t.voices[k]'hkl2).evs) && dq (s.voices.drop (k + 1)) (t.voices.drop (k + 1)))) := ⟨by rw [HK.out, dq_drop hkl hkl2, dq_vc]⟩
   replace q0 := keep_cell q0 hbw
   replace q1 := keep_cell q1 hbw
   replace r0 := keep_cell r0 hbw
   replace r1 := keep_cell r1 hbw
   obtain ⟨hel, hnl⟩ := HEV.out k hkl
   have HNL : Box (∀ x ∈ (s.voices[k]'hkl).evs, x.notes.length ≤ 1000000) := ⟨hnl⟩
   have HE1 := Lib.hid hev1
   have HE2 := Lib.hid hev2
   have hkv : (k : Int) < (s.voices.length : Int) := by omega
   have hk0 : (0 : Int) ≤ (k : Int) := by omega
   clear hev1 hev2 hnl hx1 hx2 hbw HK
   unfold maxLen at h1m h2m
   generalize s.voices[k]'hkl = v at *
   generalize t.voices[k]'hkl2 = v2 at *
   clear hkl2
   obtain ⟨nm, es⟩ := v
   obtain ⟨nm2, es2⟩ := v2
   dsimp only at *
   generalize hrest : dq (s.voices.drop (k + 1)) (t.voices.drop (k + 1)) = rst at *
   have HREST : Box (dq (s.voices.drop (k + 1)) (t.voices.drop (k + 1)) = rst) := ⟨hrest⟩
   clear hrest
   go_upto_region 6 with (fail)
   go_cut [6, 7] (fun s6 s7 wx => ∃ g6 g7, s6 = .pointer (some ⟨g6, 0, Option.none⟩) ∧ s7 = .pointer (some ⟨g7, 0, Option.none⟩) ∧ Cells wx g6 48 [.string ⟨nm.toArray⟩, .slice A1 es.length C1] ∧ Cells wx g7 48 [.string ⟨nm2.toArray⟩, .slice A2 es2.length C2] ∧ Below wr.heap.size wr wx ∧ w.heap.size + 2 ≤ g6 ∧ w.heap.size + 2 ≤ g7)
   case first =>
    have hB : Below wr.heap.size wr wr.drew := below_to_drew (Below.refl _ _)
    go_region_held3 (fun w' => w'.cell? ⟨w.heap.size, 1, Option.none⟩ = some (.slice (some ⟨b1, o1, Option.none⟩) s.voices.length cV) ∧ w'.cell? ⟨w.heap.size + 1, 1, Option.none⟩ = some (.slice (some ⟨b2, o2, Option.none⟩) s.voices.length dV) ∧ w'.cell? ⟨b1, o1 + k * 2, Option.none⟩ = some (.string ⟨nm.toArray⟩) ∧ w'.cell? ⟨b1, o1 + k * 2 + 1, Option.none⟩ = some (.slice A1 es.length C1) ∧ w'.cell? ⟨b2, o2 + k * 2, Option.none⟩ = some (.string ⟨nm2.toArray⟩) ∧ w'.cell? ⟨b2, o2 + k * 2 + 1, Option.none⟩ = some (.slice A2 es2.length C2))
     (first | exact ⟨keep_cell z1 hB, keep_cell y1 hB, keep_cell q0 hB, keep_cell q1 hB, keep_cell r0 hB, keep_cell r1 hB⟩ | exact ⟨keep_cell z1 (Below.alloc hB (hB).size _), keep_cell y1 (Below.alloc hB (hB).size _), keep_cell q0 (Below.alloc hB (hB).size _), keep_cell q1 (Below.alloc hB (hB).size _), keep_cell r0 (Below.alloc hB (hB).size _), keep_cell r1 (Below.alloc hB (hB).size _)⟩ | exact ⟨keep_cell z1 (Below.alloc (Below.alloc hB (hB).size _) ((Below.alloc hB (hB).size _)).size _), keep_cell y1 (Below.alloc (Below.alloc hB (hB).size _) ((Below.alloc hB (hB).size _)).size _), keep_cell q0 (Below.alloc (Below.alloc hB (hB).size _) ((Below.alloc hB (hB).size _)).size _), keep_cell q1 (Below.alloc (Below.alloc hB (hB).size _) ((Below.alloc hB (hB).size _)).size _), keep_cell r0 (Below.alloc (Below.alloc hB (hB).size _) ((Below.alloc hB (hB).size _)).size _), keep_cell r1 (Below.alloc (Below.alloc hB (hB).size _) ((Below.alloc hB (hB).size _)).size _)⟩ | exact ⟨keep_cell z1 (sr2_below (by omega) (Below.alloc (Below.alloc hB (hB).size _) ((Below.alloc hB (hB).size _)).size _)), keep_cell y1 (sr2_below (by omega) (Below.alloc (Below.alloc hB (hB).size _) ((Below.alloc hB (hB).size _)).size _)), keep_cell q0 (sr2_below (by omega) (Below.alloc (Below.alloc hB (hB).size _) ((Below.alloc hB (hB).size _)).size _)), keep_cell q1 (sr2_below (by omega) (Below.alloc (Below.alloc hB (hB).size _) ((Below.alloc hB (hB).size _)).size _)), keep_cell r0 (sr2_below (by omega) (Below.alloc (Below.alloc hB (hB).size _) ((Below.alloc hB (hB).size _)).size _)), keep_cell r1 (sr2_below (by omega) (Below.alloc (Below.alloc hB (hB).size _) ((Below.alloc hB (hB).size _)).size _))⟩ | exact ⟨keep_cell z1 (sr2_below (by omega) (sr2_below (by omega) (Below.alloc (Below.alloc hB (hB).size _) ((Below.alloc hB (hB).size _)).size _))), keep_cell y1 (sr2_below (by omega) (sr2_below (by omega) (Below.alloc (Below.alloc hB (hB).size _) ((Below.alloc hB (hB).size _)).size _))), keep_cell q0 (sr2_below (by omega) (sr2_below (by omega) (Below.alloc (Below.alloc hB (hB).size _) ((Below.alloc hB (hB).size _)).size _))), keep_cell q1 (sr2_below (by omega) (sr2_below (by omega) (Below.alloc (Below.alloc hB (hB).size _) ((Below.alloc hB (hB).size _)).size _))), keep_cell r0 (sr2_below (by omega) (sr2_below (by omega) (Below.alloc (Below.alloc hB (hB).size _) ((Below.alloc hB (hB).size _)).size _))), keep_cell r1 (sr2_below (by omega) (sr2_below (by omega) (Below.alloc (Below.alloc hB (hB).size _) ((Below.alloc hB (hB).size _)).size _)))⟩ | go_keep)
     ((first | fail))
    all_goals
     go_wp2_with fail
     go_meet
     refine ⟨_, _, rfl, rfl, ?_, ?_, ?_, by omega, by omega⟩
     ·(first | exact (two_cells wr _ _ _).1 | exact (two_cells wr _ _ _).2.1)
     ·(first | exact (two_cells wr _ _ _).2.1 | exact (two_cells wr _ _ _).1)
     ·exact (two_cells wr _ _ _).2.2
   case rest =>
    rename World => wx
    obtain ⟨g6, g7, rfl, rfl, hc6, hc7, hbx, hg6, hg7⟩ := hcut
    have HX1x := Lib.hid (HX1.out.below hbx HX1.out.lt)
    have HX2x := Lib.hid (HX2.out.below hbx HX2.out.lt)
    have HBX := Lib.hid (HBW.out.trans (hbx.mono HBW.out.size))
    have HC6 := Lib.hid hc6
    have HC7 := Lib.hid hc7
    clear hc6 hc7 hbx z0 z1 y0 y1 q0 q1 r0 r1 HX1 HX2 HBW
    by_cases hnm : nm = nm2
    case neg =>
     have HF : Box (out = false) := ⟨by rw [HKN.out, dq_ne hnm]; rfl⟩
     have hnb : (nm == nm2) = false := by simpa using hnm
     have hnb2 : (nm != nm2) = true := by simpa using hnm
     obtain ⟨n0, n1⟩ := cel2 HC6.out
     obtain ⟨m0, m1⟩ := cel2 HC7.out
     clear hnm HKN
     go_wp2_with fail
     go_ret
     exact ⟨ret1 (congrArg Value.bool HF.out.symm), HBX.out⟩
    case pos =>
    subst hnm
    by_cases hel2 : es.length = es2.length
    case neg =>
     have HF : Box (out = false) := ⟨by rw [HKN.out, dq_len hel2, Bool.and_false, Bool.false_and]⟩
     have hnb : ((es.length : Int) != (es2.length : Int)) = true := by simpa using (fun h : (es.length : Int) = (es2.length : Int) => hel2 (by omega))
     obtain ⟨n0, n1⟩ := cel2 HC6.out
     obtain ⟨m0, m1⟩ := cel2 HC7.out
     clear hel2 HKN
     go_wp2_with fail
     go_ret
     exact ⟨ret1 (congrArg Value.bool HF.out.symm), HBX.out⟩
    case pos =>
    have HEL : Box (es.length = es2.length) := ⟨hel2⟩
    have HKE : Box (out = (dq es es2 && rst)) := ⟨by rw [HKN.out, dq_self, Bool.true_and]⟩
    rw [← hel2] at HC7 h2c
    clear hel2 HKN
    obtain ⟨n0, n1⟩ := cel2 HC6.out
    obtain ⟨m0, m1⟩ := cel2 HC7.out
    go_upto_region 10 with (fail)
    clear n0 n1 m0 m1
    go_loopw [8] (fun i wy => ∃ j : Nat, j ≤ es.length ∧ i = .int .i64 j ∧ Box (out = (dq (es.drop j) (es2.drop j) && rst)) ∧ Cells wy g6 48 [.string ⟨nm.toArray⟩, .slice A1 es.length C1] ∧ Cells wy g7 48 [.string ⟨nm.toArray⟩, .slice A2 es.length C2] ∧ Cells wy w.heap.size 29 [.slice AP s.primes.length cp, .slice (some ⟨b1, o1, Option.none⟩) s.voices.length cV] ∧ Cells wy (w.heap.size + 1) 29 [.slice BP t.primes.length dp, .slice (some ⟨b2, o2, Option.none⟩) s.voices.length dV] ∧ Below w.heap.size w wy) (fun i _ => es.length - (intOf i).toNat)
    case atStart => exact ⟨0, Nat.zero_le _, rfl, ⟨by rw [List.drop_zero, List.drop_zero]; exact HKE.out⟩, HC6.out, HC7.out, HX1x.out, HX2x.out, HBX.out⟩
    case round =>
     clear HC6 HC7 HX1x HX2x HBX HKE
     rename World => wy
     obtain ⟨j, hj, rfl, HJ, hc6, hc7, hx1, hx2, hby⟩ := hrel
     have HC6 := Lib.hid hc6
     have HC7 := Lib.hid hc7
     have HX1 := Lib.hid hx1
     have HX2 := Lib.hid hx2
     have HBY := Lib.hid hby
     obtain ⟨n0, n1⟩ := cel2 hc6
     obtain ⟨m0, m1⟩ := cel2 hc7
     clear hc6 hc7 hx1 hx2
     by_cases hjl : j < es.length
     ·have hjl2 : j < es2.length := by have := HEL.out; omega
      obtain ⟨b3, o3, A3, C3, rfl, _, _, q0, q1, q2, h3c, h3m, hnt1⟩ := HE1.out.at_ hjl
      obtain ⟨b4, o4, A4, C4, rfl, _, _, r0, r1, r2, h4c, h4m, hnt2⟩ := HE2.out.at_ hjl2
      have HJN : Box (out = (((dq ((es[j]'hjl).num, (es[j]'hjl).den) ((es2[j]'hjl2).num, (es2[j]'hjl2).den) && dq (es[j]'hjl).notes (es2[j]'hjl2).notes) && dq (es.drop (j + 1)) (es2.drop (j + 1))) && rst)) := ⟨by rw [HJ.out, dq_drop hjl hjl2, dq_ev]⟩
      have hnl := HNL.out _ (List.getElem_mem hjl)
      have HN1 := Lib.hid hnt1
      have HN2 := Lib.hid hnt2
      have hji : (j : Int) < (es.length : Int) := by omega
      have hj0 : (0 : Int) ≤ (j : Int) := by omega
      clear hnt1 hnt2 HJ
      unfold maxLen at h3m h4m
      generalize es[j]'hjl = x at *
      generalize es2[j]'hjl2 = x2 at *
      clear hjl2
      obtain ⟨tn, td, ns⟩ := x
      obtain ⟨tn2, td2, ns2⟩ := x2
      dsimp only at *
      generalize hrest : dq (es.drop (j + 1)) (es2.drop (j + 1)) = rst2 at *
      have HREST2 : Box (dq (es.drop (j + 1)) (es2.drop (j + 1)) = rst2) := ⟨hrest⟩
      clear hrest
      have Q2 := Lib.hid q2
      have R2 := Lib.hid r2
      replace q0 := keep_cell q0 hby
      replace q1 := keep_cell q1 hby
      replace q2 := keep_cell q2 hby
      replace r0 := keep_cell r0 hby
      replace r1 := keep_cell r1 hby
      replace r2 := keep_cell r2 hby
      clear hby
      have hB : Below wy.heap.size wy wy.drew := below_to_drew (Below.refl _ _)
      by_cases htt : (tn, td) = (tn2, td2)
      case neg =>
       have HF : Box (out = false) := ⟨by rw [HJN.out, dq_ne htt]; rfl⟩
       have hbb : ((tn == tn2) && (td == td2)) = false := by rw [← dq_pair, dq_ne htt]
       have hne : ∀ W, (binOp .neq 51 (.agg #[.string ⟨tn.toArray⟩, .string ⟨td.toArray⟩]) (.agg #[.string ⟨tn2.toArray⟩, .string ⟨td2.toArray⟩])).run Tryz.prog W = .ok (.bool true) W := fun W => by rw [rat_neq, hbb]; rfl
       clear htt hbb HJN
       go_wp2_with fail
       go_quiet (fail)
       all_goals
        replace HBY := Lib.hid (HBY.out.trans ((below_drewN (Below.refl _ _) nq).mono HBY.out.size))
        go_wp2_with fail
        go_ret
        exact ⟨ret1 (congrArg Value.bool HF.out.symm), HBY.out⟩
      case pos =>
      injection htt with htn htd
      subst htn htd
      have hne : ∀ W, (binOp .neq 51 (.agg #[.string ⟨tn.toArray⟩, .string ⟨td.toArray⟩]) (.agg #[.string ⟨tn.toArray⟩, .string ⟨td.toArray⟩])).run Tryz.prog W = .ok (.bool false) W := fun W => by rw [rat_neq]; simp
      by_cases hnn : ns.length = ns2.length
      case neg =>
       have HF : Box (out = false) := ⟨by rw [HJN.out, dq_len hnn, Bool.and_false, Bool.false_and, Bool.false_and]⟩
       have hnb : ((ns.length : Int) != (ns2.length : Int)) = true := by simpa using (fun h : (ns.length : Int) = (ns2.length : Int) => hnn (by omega))
       clear hnn HJN
       go_wp2_with fail
       go_region_held3 (fun w' => w'.cell? ⟨g6, 1, Option.none⟩ = some (.slice (some ⟨b3, o3, Option.none⟩) es.length C1) ∧ w'.cell? ⟨g7, 1, Option.none⟩ = some (.slice (some ⟨b4, o4, Option.none⟩) es.length C2) ∧ w'.cell? ⟨b3, o3 + j * 3, Option.none⟩ = some (.string ⟨tn.toArray⟩) ∧ w'.cell? ⟨b3, o3 + j * 3 + 1, Option.none⟩ = some (.string ⟨td.toArray⟩) ∧ w'.cell? ⟨b3, o3 + j * 3 + 2, Option.none⟩ = some (.slice A3 ns.length C3) ∧ w'.cell? ⟨b4, o4 + j * 3, Option.none⟩ = some (.string ⟨tn.toArray⟩) ∧ w'.cell? ⟨b4, o4 + j * 3 + 1, Option.none⟩ = some (.string ⟨td.toArray⟩) ∧ w'.cell? ⟨b4, o4 + j * 3 + 2, Option.none⟩ = some (.slice A4 ns2.length C4))
        (first | exact ⟨keep_cell n1 hB, keep_cell m1 hB, keep_cell q0 hB, keep_cell q1 hB, keep_cell q2 hB, keep_cell r0 hB, keep_cell r1 hB, keep_cell r2 hB⟩ | go_keep)
        ((first | fail))
       all_goals
        replace HBY := Lib.hid (HBY.out.trans (hB.mono HBY.out.size))
        go_wp2_with fail
        go_ret
        exact ⟨ret1 (congrArg Value.bool HF.out.symm), HBY.out⟩
      case pos =>
      have HNN : Box (ns.length = ns2.length) := ⟨hnn⟩
      have HJE : Box (out = ((dq ns ns2 && rst2) && rst)) := ⟨by rw [HJN.out, dq_self, Bool.true_and]⟩
      rw [← hnn] at r2 h4c R2
      clear hnn HJN
      go_wp2_with fail
      go_region_held3 (fun w' => w'.cell? ⟨g6, 1, Option.none⟩ = some (.slice (some ⟨b3, o3, Option.none⟩) es.length C1) ∧ w'.cell? ⟨g7, 1, Option.none⟩ = some (.slice (some ⟨b4, o4, Option.none⟩) es.length C2) ∧ w'.cell? ⟨b3, o3 + j * 3, Option.none⟩ = some (.string ⟨tn.toArray⟩) ∧ w'.cell? ⟨b3, o3 + j * 3 + 1, Option.none⟩ = some (.string ⟨td.toArray⟩) ∧ w'.cell? ⟨b3, o3 + j * 3 + 2, Option.none⟩ = some (.slice A3 ns.length C3) ∧ w'.cell? ⟨b4, o4 + j * 3, Option.none⟩ = some (.string ⟨tn.toArray⟩) ∧ w'.cell? ⟨b4, o4 + j * 3 + 1, Option.none⟩ = some (.string ⟨td.toArray⟩) ∧ w'.cell? ⟨b4, o4 + j * 3 + 2, Option.none⟩ = some (.slice A4 ns.length C4))
       (first | exact ⟨keep_cell n1 hB, keep_cell m1 hB, keep_cell q0 hB, keep_cell q1 hB, keep_cell q2 hB, keep_cell r0 hB, keep_cell r1 hB, keep_cell r2 hB⟩ | go_keep)
       ((first | fail))
      replace HC6 := Lib.hid (HC6.out.below hB HC6.out.lt)
      replace HC7 := Lib.hid (HC7.out.below hB HC7.out.lt)
      replace HX1 := Lib.hid (HX1.out.below hB HX1.out.lt)
      replace HX2 := Lib.hid (HX2.out.below hB HX2.out.lt)
      replace HBY := Lib.hid (HBY.out.trans (hB.mono HBY.out.size))
      replace n1 := keep_cell n1 hB
      replace m1 := keep_cell m1 hB
      replace q2 := keep_cell q2 hB
      replace r2 := keep_cell r2 hB
      clear hB n0 m0 q0 q1 r0 r1 hne
      go_upto_region 15 with (fail)
      obtain ⟨W7, hW7⟩ : ∃ W7, W7 = wy.drew := ⟨_, rfl⟩
      rw [← hW7] at HC6 HC7 HX1 HX2 HBY ⊢
      clear hW7 n1 m1 q2 r2
      go_loopw [9] (fun i wz => ∃ m : Nat, m ≤ ns.length ∧ i = .int .i64 m ∧ Box (out = ((dq (ns.drop m) (ns2.drop m) && rst2) && rst)) ∧ Cells wz g6 48 [.string ⟨nm.toArray⟩, .slice (some ⟨b3, o3, Option.none⟩) es.length C1] ∧ Cells wz g7 48 [.string ⟨nm.toArray⟩, .slice (some ⟨b4, o4, Option.none⟩) es.length C2] ∧ Cells wz w.heap.size 29 [.slice AP s.primes.length cp, .slice (some ⟨b1, o1, Option.none⟩) s.voices.length cV] ∧ Cells wz (w.heap.size + 1) 29 [.slice BP t.primes.length dp, .slice (some ⟨b2, o2, Option.none⟩) s.voices.length dV] ∧ Below w.heap.size w wz) (fun i _ => ns.length - (intOf i).toNat)
      case atStart => exact ⟨0, Nat.zero_le _, rfl, ⟨by rw [List.drop_zero, List.drop_zero]; exact HJE.out⟩, HC6.out, HC7.out, HX1.out, HX2.out, HBY.out⟩
      case round =>
       clear HC6 HC7 HX1 HX2 HBY HJE
       rename World => wz
       obtain ⟨m, hm, rfl, HM, hc6, hc7, hx1, hx2, hbz⟩ := hrel
       have HC6 := Lib.hid hc6
       have HC7 := Lib.hid hc7
       have HX1 := Lib.hid hx1
       have HX2 := Lib.hid hx2
       have HBZ := Lib.hid hbz
       have q2 := keep_cell Q2.out hbz
       have r2 := keep_cell R2.out hbz
       obtain ⟨n0, n1⟩ := cel2 hc6
       obtain ⟨m0, m1⟩ := cel2 hc7
       clear hc6 hc7 hx1 hx2
       by_cases hml : m < ns.length
       ·have hml2 : m < ns2.length := by have := HNN.out; omega
        obtain ⟨b5, o5, u1, rfl, _, _, g0, hr1⟩ := HN1.out.at_ hml
        obtain ⟨b6, o6, u2, rfl, _, _, g1, hr2⟩ := HN2.out.at_ hml2
        have HMN : Box (out = (((sameB (ns[m]'hml) (ns2[m]'hml2) && dq (ns.drop (m + 1)) (ns2.drop (m + 1))) && rst2) && rst)) := ⟨by rw [HM.out, dq_drop hml hml2, dq_row]⟩
        replace g0 := keep_cell g0 hbz
        replace g1 := keep_cell g1 hbz
        have HSM := Lib.hid (fun (W : World) (hb : Below wz.heap.size wz W) => same_any u1 u2 (ns[m]'hml) (ns2[m]'hml2) W (((hr1.lift hbz).lift hb).row) (((hr2.lift hbz).lift hb).row))
        obtain ⟨U1, k1, rfl, _⟩ := hr1.shape
        obtain ⟨U2, k2, rfl, _⟩ := hr2.shape
        have hmi : (m : Int) < (ns.length : Int) := by omega
        have hm0 : (0 : Int) ≤ (m : Int) := by omega
        clear hr1 hr2 hbz HM
        generalize ns[m]'hml = y at *
        generalize ns2[m]'hml2 = y2 at *
        clear hml2
        generalize hsb : sameB y y2 = sb at *
        clear hsb
        have hB : Below wz.heap.size wz wz.drew := below_to_drew (Below.refl _ _)
        go_wp2_with fail
        go_region_held3 (fun w' => w'.cell? ⟨g6, 1, Option.none⟩ = some (.slice (some ⟨b3, o3, Option.none⟩) es.length C1) ∧ w'.cell? ⟨g7, 1, Option.none⟩ = some (.slice (some ⟨b4, o4, Option.none⟩) es.length C2) ∧ w'.cell? ⟨b3, o3 + j * 3 + 2, Option.none⟩ = some (.slice (some ⟨b5, o5, Option.none⟩) ns.length C3) ∧ w'.cell? ⟨b4, o4 + j * 3 + 2, Option.none⟩ = some (.slice (some ⟨b6, o6, Option.none⟩) ns.length C4) ∧ w'.cell? ⟨b5, o5 + m, Option.none⟩ = some (.slice U1 y.length k1) ∧ w'.cell? ⟨b6, o6 + m, Option.none⟩ = some (.slice U2 y2.length k2))
         (first | exact ⟨keep_cell n1 hB, keep_cell m1 hB, keep_cell q2 hB, keep_cell r2 hB, keep_cell g0 hB, keep_cell g1 hB⟩ | go_keep)
         ((first
           | (go_at_call 34; (with_reducible refine (HSM.out _ hB).mono ?_); rintro e wA ⟨rfl, hbk⟩; replace hB := hB.trans (hbk.mono hB.size); clear hbk)))
        all_goals
         have HC6n := Lib.hid (HC6.out.below hB HC6.out.lt)
         have HC7n := Lib.hid (HC7.out.below hB HC7.out.lt)
         have HX1n := Lib.hid (HX1.out.below hB HX1.out.lt)
         have HX2n := Lib.hid (HX2.out.below hB HX2.out.lt)
         have HBN := Lib.hid (HBZ.out.trans (hB.mono HBZ.out.size))
         clear hB n0 n1 m0 m1 q2 r2 g0 g1 HSM
         cases sb with
         | false =>
           have HF : Box (out = false) := ⟨by rw [HMN.out]; rfl⟩
           go_wp2_with fail
           go_ret
           exact ⟨ret1 (congrArg Value.bool HF.out.symm), HBN.out⟩
         | true =>
           go_wp2_with fail
           go_roundw
           case rel => exact ⟨m + 1, by omega, by go_num, ⟨by rw [HMN.out, Bool.true_and]⟩, HC6n.out, HC7n.out, HX1n.out, HX2n.out, HBN.out⟩
           case measure => simp [intOf]; omega
       ·obtain rfl : m = ns.length := by omega
        have HME : Box (out = (rst2 && rst)) := ⟨by rw [HM.out, dq_end (Nat.le_refl _) (by have := HNN.out; omega), Bool.true_and]⟩
        go_wp2_with fail
        go_roundw
        case rel => exact ⟨j + 1, by omega, by go_num, ⟨by rw [HREST2.out]; exact HME.out⟩, HC6.out, HC7.out, HX1.out, HX2.out, HBZ.out⟩
        case measure => simp [intOf]; omega
     ·obtain rfl : j = es.length := by omega
      have HJE : Box (out = rst) := ⟨by rw [HJ.out, dq_end (Nat.le_refl _) (by have := HEL.out; omega), Bool.true_and]⟩
      go_wp2_with fail
      go_roundw
      case rel => exact ⟨k + 1, by omega, by go_num, ⟨by rw [HREST.out]; exact HJE.out⟩, HX1.out, HX2.out, HBY.out⟩
      case measure => simp [intOf]; omega
  ·obtain rfl : k = s.voices.length := by omega
   have HKE : Box (out = true) := ⟨by rw [HK.out, dq_end (Nat.le_refl _) (by have := HLT.out; omega)]⟩
   go_wp2_with fail
   go_ret
   exact ⟨ret1 (congrArg Value.bool HKE.out.symm), HBW.out⟩
end Go.Proofs.YtaaeekahhhookaaGreatDoor
