/- lexer.Open. At of a stream that lies in memory. The methods of a stream, in one form. The rest of a slice of tokens; slices.IndexFunc for the first end. -/
import Derived.Test.YtjgpjhaeoiddbaaGreatDoorGV
import Derived.Deep.RegionHeld3
import Derived.Deep.AppendLies
import Derived.Deep.RegionLaw
import Derived.Test.YtjgpjhaeoiddbaaGreatDoorGP
namespace Go.Proofs.YtjgpjhaeoiddbaaGreatDoor
open Go.RowKit Go.Lib

set_option maxRecDepth 100000 in
set_option maxHeartbeats 8000000 in
theorem open_any (v : Value) (l : List Tok) (w : World) (hv : IsToks w w.heap.size v l) (hr : ∀ t ∈ l, t.row.length ≤ 1000) (hln : l.length ≤ 1000) :
    Calls Tryz.prog 14 #[v] w fun e w' => (∃ g A c, e = .returned (.pointer (some ⟨g, 0, Option.none⟩)) ∧ w.heap.size ≤ g ∧ Str w' g A c l 0) ∧ Below w.heap.size w w' := by
  obtain ⟨i0, hi0, hz0, hz1, hz2⟩ := info_parts Tryz.info_tok
  have HV := Lib.hid hv
  have HR := Lib.hid hr
  obtain ⟨AX, cx, _, rfl, _⟩ := hv
  have hli : (l.length : Int) ≤ 1000 := by omega
  clear hr
  go_enter Tryz.func14, Tryz.ntmps14
  go_wp2_with fail
  go_loopw [10] (fun iv wr => ∃ (k : Nat) (sv : Value), k ≤ l.length ∧ iv = .int .i64 k ∧ Cells wr w.heap.size 102 [sv, .int .i64 0] ∧ Toks wr (w.heap.size + 1) sv (l.take k) ∧ Below w.heap.size w wr) (fun iv _ => l.length - (intOf iv).toNat)
  case atStart => exact ⟨0, _, Nat.zero_le _, rfl, Cells.new w 102 #[.slice Option.none 0 0, .int .i64 0], Toks.nil _ _, (Below.refl _ _).alloc (Nat.le_refl _) _⟩
  case round =>
    obtain ⟨k, sv, hk, rfl, hc, ht, hbw⟩ := hrel
    by_cases hlt : k < l.length
    · obtain ⟨b1, o1, r1, rfl, hb1, hr1, hc1⟩ := (HV.out.lift hbw).at_ hlt
      have hrl := HR.out _ (List.getElem_mem hlt)
      have HTK : Box (l.take (k + 1) = l.take k ++ [l[k]'hlt]) := ⟨List.take_succ_eq_append_getElem hlt⟩
      have HTL : Box ((l.take k).length = k) := ⟨by rw [List.length_take, Nat.min_eq_left hk]⟩
      generalize l[k]'hlt = t at *
      obtain ⟨A1, C1, e1, _⟩ := id hr1
      subst e1
      have p0 := hc1 0 (by omega)
      have p1 := hc1 1 (by omega)
      have p2 := hc1 2 (by omega)
      have p3 := hc1 3 (by omega)
      have p4 := hc1 4 (by omega)
      have p5 := hc1 5 (by omega)
      have p6 := hc1 6 (by omega)
      simp only [tokVals, List.getElem?_cons_succ, List.getElem?_cons_zero, Nat.add_zero] at p0 p1 p2 p3 p4 p5 p6
      obtain ⟨k0, x0, n0, d0, r0, l0, q0⟩ := t
      dsimp only at *
      have hba : Below wr.heap.size wr (wr.alloc (.cells #[.int .i64 k0, .string ⟨x0.toArray⟩, .string ⟨n0.toArray⟩, .string ⟨d0.toArray⟩, .slice A1 r0.length C1, .int .i64 l0, .int .i64 q0] 38)) := (Below.refl _ _).alloc (Nat.le_refl _) _
      have HRW := Lib.hid (hr1.lift hba)
      have HC := Lib.hid hc
      obtain ⟨rvs, hr1', hown, hr3⟩ := ht
      have HR1 : Box (rvs.length = (l.take k).length) := ⟨hr1'⟩
      have HOR := Lib.hid hown
      have HR3 := Lib.hid hr3
      have hlk : (l.take k).length ≤ 1000 := by rw [HTL.out]; omega
      have HB := Lib.hid hbw
      have HBA := Lib.hid hba
      have HN := Lib.hid (Cells.new wr 38 #[.int .i64 k0, .string ⟨x0.toArray⟩, .string ⟨n0.toArray⟩, .string ⟨d0.toArray⟩, .slice A1 r0.length C1, .int .i64 l0, .int .i64 q0])
      have hlw : w.heap.size < wr.heap.size := hc.lt
      clear hc hown hr3 hr1' hbw hba hr1 hc1 hb1
      go_wp2_with fail
      refine (clone_any _ r0 _ HRW.out hrl).mono ?_
      rintro e w5 ⟨⟨A5, c5, rfl, ht5⟩, hb5⟩
      have hs5 := hb5.size
      rw [World.size_alloc] at hs5
      have hN5 := HN.out.below hb5 HN.out.lt
      have hb6 := (HBA.out.trans (hb5.mono HBA.out.size)).setCell (p := ⟨wr.heap.size, 4, Option.none⟩) (Nat.le_refl _) (.slice A5 r0.length c5)
      have hA6 := ht5.set hN5 (k := 4) (by decide) (.slice A5 r0.length c5)
      have hN6 := hN5.set 4 (.slice A5 r0.length c5)
      have hC6 := HC.out.below hb6 hlw
      have hO6 := own_below HOR.out hb6
      have f4 := hN5.free 4
      obtain ⟨⟨p0, p1, p2, p3, p4, p5, p6⟩, _⟩ := cells7 (show Cells w5 wr.heap.size 38 [_, _, _, _, _, _, _] from hN5)
      have hs6 : wr.heap.size < (w5.setCell ⟨wr.heap.size, 4, Option.none⟩ (.slice A5 r0.length c5)).heap.size := hN6.lt
      have HN6 := Lib.hid hN6
      have HC6 := Lib.hid hC6
      have HO6 := Lib.hid hO6
      have HA6 := Lib.hid hA6
      have HB6 := Lib.hid hb6
      clear hN5 hb6 hA6 hN6 hC6 hO6 hb5 ht5 HRW HC HN HBA
      go_upto_region 6 with (fail)
      clear p0 p1 p2 p3 p4 p5 p6 f4
      generalize w5.setCell ⟨wr.heap.size, 4, Option.none⟩ (.slice A5 r0.length c5) = W at *
      obtain ⟨⟨p0, p1, p2, p3, p4, p5, p6⟩, _⟩ := cells7 (show Cells W wr.heap.size 38 [_, _, _, _, _, _, _] from HN6.out)
      have c0 := HC6.out.cell 0
      simp only [List.getElem?_cons_zero] at c0
      have hcd := (HC6.out.alloc (.cells #[.int .i64 k0, .string ⟨x0.toArray⟩, .string ⟨n0.toArray⟩, .string ⟨d0.toArray⟩, .slice A5 r0.length c5, .int .i64 l0, .int .i64 q0] 38)).cell 0
      simp only [List.getElem?_cons_zero] at hcd
      have hlt0 : w.heap.size < W.heap.size := by have := HB6.out.size; omega
      have hne : wr.heap.size ≠ w.heap.size := by omega
      have hne2 : w.heap.size ≠ wr.heap.size := by omega
      have hsz7 := HB6.out.size
      go_region_law (first | (refine step_append_lies _ (by rfl) _ _ _ (by rfl) (w.heap.size + 1) 38 i0 _ 7 96 Tryz.underlying22 hi0 hz0 hz1 hz2 rfl (by omega) sv (l.take k).length _ (by rfl) ((HO6.out.alloc _).drew) ⟨W.heap.size, 0, Option.none⟩ 1 1 [.int .i64 k0, .string ⟨x0.toArray⟩, .string ⟨n0.toArray⟩, .string ⟨d0.toArray⟩, .slice A5 r0.length c5, .int .i64 l0, .int .i64 q0] (by rfl) (by rfl) (World.news_of_block (cs := #[.int .i64 k0, .string ⟨x0.toArray⟩, .string ⟨n0.toArray⟩, .string ⟨d0.toArray⟩, .slice A5 r0.length c5, .int .i64 l0, .int .i64 q0]) (t := 38) (fr := (0, 0)) (heap_alloc_new _ _)) (by simp [Value.oneCell']) (by omega) (by unfold maxLen; omega) (by omega) (by simp; omega) (W.heap.size + 1) (by simp) ?_; intro gg cap w3 hown3 hgrow hat hlt3; have hC3 := Cells.grown (((HC6.out.alloc (.cells #[.int .i64 k0, .string ⟨x0.toArray⟩, .string ⟨n0.toArray⟩, .string ⟨d0.toArray⟩, .slice A5 r0.length c5, .int .i64 l0, .int .i64 q0] 38)).drew)) hgrow (fun e => by have := (HOR.out.lt _ e.symm).1; omega); have z0 := hC3.cell 0; have z1 := hC3.free 0; simp only [List.getElem?_cons_zero] at z0) | (refine step_append_lies _ (by rfl) _ _ _ (by rfl) (w.heap.size + 1) 38 i0 _ 7 96 Tryz.underlying22 hi0 hz0 hz1 hz2 rfl (by omega) sv (l.take k).length _ (by rfl) (HO6.out.drew.alloc _) ⟨W.heap.size, 0, Option.none⟩ 1 1 [.int .i64 k0, .string ⟨x0.toArray⟩, .string ⟨n0.toArray⟩, .string ⟨d0.toArray⟩, .slice A5 r0.length c5, .int .i64 l0, .int .i64 q0] (by rfl) (by rfl) (World.news_of_block (cs := #[.int .i64 k0, .string ⟨x0.toArray⟩, .string ⟨n0.toArray⟩, .string ⟨d0.toArray⟩, .slice A5 r0.length c5, .int .i64 l0, .int .i64 q0]) (t := 38) (fr := (0, 0)) (heap_alloc_new _ _)) (by simp [Value.oneCell']) (by omega) (by unfold maxLen; omega) (by omega) (by simp; omega) (W.heap.size + 1) (by simp) ?_; intro gg cap w3 hown3 hgrow hat hlt3; have hC3 := Cells.grown ((HC6.out.drew.alloc (.cells #[.int .i64 k0, .string ⟨x0.toArray⟩, .string ⟨n0.toArray⟩, .string ⟨d0.toArray⟩, .slice A5 r0.length c5, .int .i64 l0, .int .i64 q0] 38))) hgrow (fun e => by have := (HOR.out.lt _ e.symm).1; omega); have z0 := hC3.cell 0; have z1 := hC3.free 0; simp only [List.getElem?_cons_zero] at z0))
      all_goals
        have hbx : Below wr.heap.size wr (W.alloc (.cells #[.int .i64 k0, .string ⟨x0.toArray⟩, .string ⟨n0.toArray⟩, .string ⟨d0.toArray⟩, .slice A5 r0.length c5, .int .i64 l0, .int .i64 q0] 38)).drew := below_to_drew (HB6.out.alloc HB6.out.size _)
        have hby : Below W.heap.size W (W.alloc (.cells #[.int .i64 k0, .string ⟨x0.toArray⟩, .string ⟨n0.toArray⟩, .string ⟨d0.toArray⟩, .slice A5 r0.length c5, .int .i64 l0, .int .i64 q0] 38)).drew := below_to_drew ((Below.refl _ _).alloc (Nat.le_refl _) _)
        have hT3 := Toks.push (t := ⟨k0, x0, n0, d0, r0, l0, q0⟩) (rv := .slice A5 r0.length c5) HR1.out ((HO6.out.alloc (.cells #[.int .i64 k0, .string ⟨x0.toArray⟩, .string ⟨n0.toArray⟩, .string ⟨d0.toArray⟩, .slice A5 r0.length c5, .int .i64 l0, .int .i64 q0] 38)).drew) (fun j t rv a b => (HR3.out j t rv a b).below hbx) (HA6.out.below hby) hown3 hgrow
        have hB3 := ((HB.out.trans (hbx.mono HB.out.size)).grown hgrow (by simp; omega) (fun j hj => by have := (HOR.out.lt j hj).1; omega))
        rw [← HTK.out, HTL.out] at hT3
        have HT3 := Lib.hid hT3
        have HB3 := Lib.hid hB3
        have HC3 := Lib.hid hC3
        clear hT3 hB3 hbx hby hown3 hgrow hat hC3
        go_wp2_with fail
        go_roundw
        case rel => exact ⟨k + 1, _, by omega, by go_num, HC3.out.set 0 _, HT3.out.set (Nat.lt_succ_self _) HC3.out (by decide) _, HB3.out.setCell (Nat.le_refl _) _⟩
        case measure => simp [intOf]; omega
    · obtain rfl : k = l.length := by omega
      rw [List.take_of_length_le (Nat.le_refl _)] at ht
      obtain ⟨LA, LC, _, hlv, _⟩ := ht.isToks
      subst hlv
      go_wp2_with fail
      go_ret
      exact ⟨⟨_, LA, LC, rfl, Nat.le_refl _, hc, ht⟩, hbw⟩

end Go.Proofs.YtjgpjhaeoiddbaaGreatDoor

namespace Go.Proofs.YtjgpjhaeoiddbaaGreatDoor
open Go.RowKit Go.Lib

set_option maxRecDepth 100000 in
set_option maxHeartbeats 2000000 in
theorem at_empty {g c : Nat} {A : Option Addr} {w : World} (h : Str w g A c [] 0) :
    Calls Tryz.prog 24 #[.pointer (some ⟨g, 0, Option.none⟩)] w fun e w' => e = .returned (.agg #[.int .i64 0, .int .i64 0]) ∧ Str w' g A c [] 0 ∧ Below w.heap.size w w' := by
  have HS := Lib.hid h
  have hba : Below w.heap.size w (w.alloc (.cells #[.int .i64 0, .int .i64 0] 36)) := (Below.refl _ _).alloc (Nat.le_refl _) _
  obtain ⟨c0, c1⟩ := Strm.cells (Cells.below h.strm hba (Cells.lt h.strm))
  simp only [List.length_nil] at c0
  have HB := Lib.hid hba
  clear h hba
  go_enter Tryz.func24, Tryz.ntmps24
  go_wp2_with fail
  refine bodyPost_ret (v := .agg #[.int .i64 0, .int .i64 0]) (by simp [results, Tryz.results24, go_sem]) rfl ⟨rfl, HS.out.below HB.out, HB.out⟩

set_option maxRecDepth 100000 in
set_option maxHeartbeats 4000000 in
theorem at_place {g k c i : Nat} {A : Option Addr} {l : List Tok} {w : World} (h : Str w g A c l k) (hk : k ≤ l.length) (hln : l.length ≤ 1000) (hi : i < l.length) (hm : min k (l.length - 1) = i) :
    Calls Tryz.prog 24 #[.pointer (some ⟨g, 0, Option.none⟩)] w fun e w' => e = .returned (.agg #[.int .i64 (l[i]'hi).line, .int .i64 (l[i]'hi).col]) ∧ Str w' g A c l k ∧ Below w.heap.size w w' := by
  have HS := Lib.hid h
  have hba : Below w.heap.size w (w.alloc (.cells #[.int .i64 0, .int .i64 0] 36)) := (Below.refl _ _).alloc (Nat.le_refl _) _
  obtain ⟨c0, c1⟩ := Strm.cells (Cells.below h.strm hba (Cells.lt h.strm))
  obtain ⟨b1, o1, r1, e1, hb1, hr1, hc1⟩ := IsToks.at_ h.toks.isToks hi
  subst e1
  generalize l[i]'hi = t at *
  have p5 := keep_cell (hc1 5 (by omega)) hba
  have p6 := keep_cell (hc1 6 (by omega)) hba
  change _ = some (Value.int .i64 t.line) at p5
  change _ = some (Value.int .i64 t.col) at p6
  have hN := Cells.new w 36 #[.int .i64 0, .int .i64 0]
  have n0 := hN.cell 0
  have n1 := hN.cell 1
  have f0 := hN.free 0
  have f1 := hN.free 1
  have HB := Lib.hid hba
  have hgw : g < w.heap.size := Cells.lt h.strm
  have hl0 : ((l.length : Int) == 0) = false := by rw [beq_eq_false_iff_ne]; omega
  have hw1 : IntKind.i64.wrap ((l.length : Int) - 1) = (l.length : Int) - 1 := IntWalk.i64_in _ (by omega)
  have hmin : min (k : Int) ((l.length : Int) - 1) = (i : Int) := by omega
  have hi0 : (0 : Int) ≤ (i : Int) := by omega
  have hi1 : (i : Int) < (l.length : Int) := by omega
  clear h hba hr1 hc1 hN
  obtain ⟨k0, x0, d0, q0, r0, l0, o0⟩ := t
  dsimp only at *
  go_enter Tryz.func24, Tryz.ntmps24
  go_wp2_with fail
  have hg2 : g ≠ w.heap.size := by omega
  have hg3 : w.heap.size ≠ g := by omega
  have hg4 : b1 ≠ w.heap.size := by omega
  have hg5 : w.heap.size ≠ b1 := by omega
  obtain ⟨W, hW⟩ : ∃ W, W = w.alloc (.cells #[.int .i64 0, .int .i64 0] 36) := ⟨_, rfl⟩
  rw [← hW] at HB c0 c1 p5 p6 n0 n1 f0 f1 ⊢
  clear hW
  go_region_held3 (fun w' => w'.cell? ⟨g, 0, Option.none⟩ = some (.slice (some ⟨b1, o1, Option.none⟩) l.length c) ∧ w'.cell? ⟨g, 1, Option.none⟩ = some (.int .i64 (k : Int)) ∧ w'.cell? ⟨b1, o1 + i * 7 + 5, Option.none⟩ = some (.int .i64 l0) ∧ w'.cell? ⟨b1, o1 + i * 7 + 6, Option.none⟩ = some (.int .i64 o0))
    (first | exact ⟨c0, c1, p5, p6⟩ | go_keep)
    (fail)
  go_wp2_with fail
  refine bodyPost_ret (v := .agg #[.int .i64 l0, .int .i64 o0]) (by simp [results, Tryz.results24, go_sem, n0, n1]) rfl ⟨rfl, ?_, ?_⟩
  · exact HS.out.below (below_to_drew ((HB.out.setCell (Nat.le_refl _) _).setCell (Nat.le_refl _) _))
  · exact below_to_drew ((HB.out.setCell (Nat.le_refl _) _).setCell (Nat.le_refl _) _)

end Go.Proofs.YtjgpjhaeoiddbaaGreatDoor

namespace Go.Proofs.YtjgpjhaeoiddbaaGreatDoor
open Go.RowKit Go.Lib

section
variable {g k c : Nat} {A : Option Addr} {l : List Tok} {w : World}
theorem accept_ok (s : List UInt8) (h : Str w g A c l k) (hk : k < l.length) (hr : ∀ t ∈ l, t.row.length ≤ 1000) (hln : l.length ≤ 1000) (hq : (l[k]'hk).kind = 1 ∨ (l[k]'hk).kind = 5) (hs : (l[k]'hk).text = s) :
    Calls Tryz.prog 20 #[.pointer (some ⟨g, 0, Option.none⟩), .string ⟨s.toArray⟩] w fun e w' => e = .returned (.bool true) ∧ Str w' g A c l (k + 1) ∧ Off w.heap.size g w w' := by
  subst hs
  exact (accept_yes g k c A l (l[k]'hk) w h.strm h.toks.isToks hk (List.getElem?_eq_getElem hk) (hr _ (List.getElem_mem hk)) hln hq).mono fun _ _ ⟨he, hb⟩ => ⟨he, h.set (k' := k + 1) hb, Off.of_set hb⟩
theorem accept_no (s : List UInt8) (h : Str w g A c l k) (hr : ∀ t ∈ l, t.row.length ≤ 1000) (hq : k = l.length ∨ ∃ hk : k < l.length, ((l[k]'hk).kind ≠ 1 ∧ (l[k]'hk).kind ≠ 5) ∨ (l[k]'hk).text ≠ s) :
    Calls Tryz.prog 20 #[.pointer (some ⟨g, 0, Option.none⟩), .string ⟨s.toArray⟩] w fun e w' => e = .returned (.bool false) ∧ Str w' g A c l k ∧ Off w.heap.size g w w' := by
  rcases hq with hk | ⟨hk, hq | hq⟩
  · subst hk
    exact (accept_none g c l.length s A w h.strm).mono fun _ _ ⟨he, hb⟩ => ⟨he, h.below hb, Off.of_below hb⟩
  · exact (accept_kind g k c s A l (l[k]'hk) w h.strm h.toks.isToks hk (List.getElem?_eq_getElem hk) (hr _ (List.getElem_mem hk)) hq.1 hq.2).mono fun _ _ ⟨he, hb⟩ => ⟨he, h.below hb, Off.of_below hb⟩
  · exact (accept_text g k c s A l (l[k]'hk) w h.strm h.toks.isToks hk (List.getElem?_eq_getElem hk) (hr _ (List.getElem_mem hk)) hq).mono fun _ _ ⟨he, hb⟩ => ⟨he, h.below hb, Off.of_below hb⟩
theorem mark_yes (h : Str w g A c l k) :
    Calls Tryz.prog 25 #[.pointer (some ⟨g, 0, Option.none⟩)] w fun e w' => e = .returned (.int .i64 k) ∧ Str w' g A c l k ∧ Off w.heap.size g w w' :=
  (mark_any g _ k w h.strm).mono fun _ _ ⟨he, hb⟩ => by subst hb; exact ⟨he, h, Off.refl _ _ _⟩
theorem back_bad (n : Int) (h : Str w g A c l k) (hn : n < 0 ∨ (k : Int) < n) :
    Calls Tryz.prog 26 #[.pointer (some ⟨g, 0, Option.none⟩), .int .i64 n] w fun e w' => e = .returned (.bool false) ∧ Str w' g A c l k ∧ Off w.heap.size g w w' :=
  (back_no g _ k n w h.strm hn).mono fun _ _ ⟨he, hb⟩ => by subst hb; exact ⟨he, h, Off.refl _ _ _⟩
theorem back_good (n : Nat) (h : Str w g A c l k) (hn : n ≤ k) :
    Calls Tryz.prog 26 #[.pointer (some ⟨g, 0, Option.none⟩), .int .i64 n] w fun e w' => e = .returned (.bool true) ∧ Str w' g A c l n ∧ Off w.heap.size g w w' :=
  (back_yes g _ k n w h.strm (by omega) (by omega)).mono fun _ _ ⟨he, hb⟩ => by
    subst hb
    have hB : Below w.heap.size (w.setCell ⟨g, 1, Option.none⟩ (.int .i64 (n : Nat))) (w.setCell ⟨g, 1, Option.none⟩ (.int .i64 (n : Nat))) := Below.refl _ _
    exact ⟨he, h.set hB, Off.of_set hB⟩
end

end Go.Proofs.YtjgpjhaeoiddbaaGreatDoor

namespace Go.Proofs.YtjgpjhaeoiddbaaGreatDoor
open Go.RowKit Go.Lib

theorem flat_drop : ∀ (l : List Tok) (r : List Value) (k : Nat), r.length = l.length → flat (l.drop k) (r.drop k) = (flat l r).drop (k * 7)
  | l, r, 0, _ => by simp
  | [], [], k + 1, _ => by simp [flat]
  | [], _ :: _, _, h => by simp at h
  | _ :: _, [], _, h => by simp at h
  | a :: l, b :: r, k + 1, h => by
    rw [List.drop_succ_cons, List.drop_succ_cons, flat_drop l r k (by simpa using h), flat, show (k + 1) * 7 = (tokVals a b).length + k * 7 by show _ = 7 + k * 7; omega, List.drop_append]
    simp

theorem IsToks.drop {w : World} {B b o c n : Nat} {l : List Tok} (h : IsToks w B (.slice (some ⟨b, o, Option.none⟩) n c) l) {k : Nat} (hk : k ≤ l.length) : IsToks w B (.slice (some ⟨b, o + k * 7, Option.none⟩) (n - k) (c - k)) (l.drop k) := by
  obtain ⟨A, c', rvs, e, h1, h2, h3, h4, h5⟩ := h
  injection e with e1 e2 e3
  subst e1 e2 e3
  refine ⟨_, _, rvs.drop k, by rw [List.length_drop], by rw [List.length_drop]; omega, by omega, by rw [List.length_drop, List.length_drop, h3], ⟨by rw [flat_len _ _ (by rw [List.length_drop, List.length_drop, h3])], fun j u hu => ?_⟩, fun j t rv a b => ?_⟩
  · rw [flat_drop l rvs k h3, List.getElem?_drop] at hu
    obtain ⟨ad, e, hb, hc⟩ := h4.get _ _ hu
    injection e with e
    subst e
    refine ⟨_, rfl, hb, ?_⟩
    rw [Lib.add_plain] at hc ⊢
    rw [Nat.add_assoc]
    exact hc
  · rw [List.getElem?_drop] at a b
    exact h5 _ t rv a b
theorem IsToks.none_left (w : World) (B : Nat) (A : Option Addr) {c : Nat} (hc : c ≤ maxLen) : IsToks w B (.slice A 0 c) [] :=
  ⟨A, c, [], rfl, Nat.zero_le _, hc, rfl, ⟨rfl, fun k u hu => by simp [flat] at hu⟩, fun k t rv h => by simp at h⟩

def endB (t : Tok) : Bool := decide (t.kind = 6)
theorem idx_skip : ∀ (l : List Tok) (s : Nat), (idxF endB s l = -1 ∧ skipN l = l.length) ∨ (∃ i : Nat, idxF endB s l = (s + i : Nat) ∧ skipN l = i + 1)
  | [], s => .inl ⟨rfl, rfl⟩
  | t :: r, s => by
    by_cases h : t.kind = 6
    · refine .inr ⟨0, ?_, ?_⟩
      · rw [idxF, if_pos (by unfold endB; exact decide_eq_true h)]; rfl
      · rw [skipN, if_pos h]
    · rw [idxF, if_neg (by unfold endB; simpa using h), skipN, if_neg h]
      rcases idx_skip r (s + 1) with ⟨h1, h2⟩ | ⟨i, h1, h2⟩
      · exact .inl ⟨h1, by rw [h2]; rfl⟩
      · exact .inr ⟨i + 1, by rw [h1]; congr 1; omega, by rw [h2]⟩

set_option maxRecDepth 100000 in
set_option maxHeartbeats 1000000 in
theorem end1_any (t : Tok) (A : Option Addr) (n c : Nat) (w : World) :
    Calls Tryz.prog 22 #[.agg #[.int .i64 t.kind, .string ⟨t.text.toArray⟩, .string ⟨t.num.toArray⟩, .string ⟨t.den.toArray⟩, .slice A n c, .int .i64 t.line, .int .i64 t.col]] w fun e w' => e = .returned (.bool (endB t)) ∧ Below w.heap.size w w' := by
  obtain ⟨kd, tx, nu, de, ro, li, co⟩ := t
  dsimp only
  have hb : Below w.heap.size w (w.alloc (.cells #[.int .i64 kd, .string ⟨tx.toArray⟩, .string ⟨nu.toArray⟩, .string ⟨de.toArray⟩, .slice A n c, .int .i64 li, .int .i64 co] 38)) := (Below.refl _ _).alloc (Nat.le_refl _) _
  have HE : Box (endB ⟨kd, tx, nu, de, ro, li, co⟩ = (kd == 6)) := ⟨by unfold endB; rw [Bool.eq_iff_iff]; simp⟩
  go_enter Tryz.func22, Tryz.ntmps22
  go_wp2_with fail
  go_ret
  exact ⟨ret1 (congrArg Value.bool HE.out.symm), hb⟩

theorem index_end (v : Value) (l : List Tok) (w : World) (h : IsToks w w.heap.size v l) :
    Calls Tryz.prog 21 #[v, .func (.func 22) #[] #[]] w fun e w' => e = .returned (.int .i64 (idxF endB 0 l)) ∧ Below w.heap.size w w' :=
  indexFunc_toks _ endB v l w h (.inr rfl) (Lib.hid fun t A n c W _ => end1_any t A n c W)
theorem indexEnd_none (A : Option Addr) (c : Nat) (hc : c ≤ maxLen) (w : World) :
    Calls Tryz.prog 21 #[.slice A 0 c, .func (.func 22) #[] #[]] w fun e w' => e = .returned (.int .i64 (-1)) ∧ Below w.heap.size w w' :=
  index_end (.slice A 0 c) [] w (IsToks.none_left w _ A hc)
theorem at_zero {g c : Nat} {A : Option Addr} {l : List Tok} {w : World} (h : Str w g A c l l.length) (h0 : l.length = 0) :
    Calls Tryz.prog 24 #[.pointer (some ⟨g, 0, Option.none⟩)] w fun e w' => e = .returned (.agg #[.int .i64 0, .int .i64 0]) ∧ Str w' g A c l l.length ∧ Below w.heap.size w w' := by
  obtain rfl : l = [] := List.eq_nil_of_length_eq_zero h0
  exact at_empty h

end Go.Proofs.YtjgpjhaeoiddbaaGreatDoor
