/- schismalaw39.sub and rooted. -/
import Derived.Test.YtaiglcbgllnciaaGreatDoorGCG
import Derived.Test.YtaiglcbgllnciaaGreatDoorGCD
namespace Go.Proofs.YtaiglcbgllnciaaGreatDoor
open Go.RowKit Go.Lib

set_option maxRecDepth 100000 in
set_option maxHeartbeats 2000000 in
theorem sub_any39 (xv yv : Value) (x y : List Int) (w : World) (hx : IsRow w w.heap.size xv x) (hy : IsRow w w.heap.size yv y) (hl : x.length = y.length) (hn : x.length ≤ 1000) (hb : ∀ j : Nat, (x[j]?.getD 0).natAbs ≤ 1000000 ∧ (y[j]?.getD 0).natAbs ≤ 1000000) :
    Calls Tryz.prog 14 #[xv, yv] w fun e w' => (∃ v, e = .returned v ∧ ORow w' v (difI x y)) ∧ Below w.heap.size w w' := by
  obtain ⟨i0, hi0, hz0, hz1, hz2⟩ := info_parts Tryz.info_int
  have HXY : Box (x.length = y.length) := ⟨hl⟩
  have HEX : Box (∀ j : Nat, (x[j]?.getD 0).natAbs ≤ 1000000 ∧ (y[j]?.getD 0).natAbs ≤ 1000000) := ⟨hb⟩
  have HDI : Hid (sumTo x y (-1) x.length = difI x y) := Lib.hid rfl
  obtain ⟨AX, cx, rfl, hxc, hxm, hxr⟩ := hx
  obtain ⟨AY, cy, rfl, hyc, hym, hyr⟩ := hy
  clear hl hxc hxm hyc hym hb
  go_enter Tryz.func14, Tryz.ntmps14
  go_wp2_with fail
  go_loopw [5, 9] (fun o i wr => ∃ j : Nat, j ≤ x.length ∧ i = .int .i64 j ∧ wr.ownsRow w.heap.size 3 1 o j (is (sumTo x y (-1) j)) ∧ Below w.heap.size w wr) (fun _ i _ => x.length - (intOf i).toNat)
  case atStart => exact ⟨0, Nat.zero_le _, rfl, World.ownsRow_nil _ _ _ _, Below.refl _ _⟩
  case round =>
    obtain ⟨j, hj, rfl, hown, hbw⟩ := hrel
    have HO := Lib.hid hown
    clear hown
    by_cases hlt : j < x.length
    · obtain ⟨ad1, rfl, _, hc1⟩ := (hxr.below hbw (Nat.le_refl _)).i_at hlt
      obtain ⟨ad2, rfl, _, hc2⟩ := (hyr.below hbw (Nat.le_refl _)).i_at (k := j) (by rw [← HXY.out]; exact hlt)
      have hbd := HEX.out j
      have e3 : sumTo x y (-1) (j + 1) = sumTo x y (-1) j ++ [x[j]?.getD 0 - y[j]?.getD 0] := by
        show _ ++ [x[j]?.getD 0 + -1 * y[j]?.getD 0] = _
        rw [show x[j]?.getD 0 + -1 * y[j]?.getD 0 = x[j]?.getD 0 - y[j]?.getD 0 by omega]
      generalize x[j]?.getD 0 = a at *
      generalize y[j]?.getD 0 = b at *
      have E3 := Lib.hid e3
      clear e3
      have hly : (j : Int) < (y.length : Int) := by have := HXY.out; omega
      have hlx : (j : Int) < (x.length : Int) := by omega
      have hj0 : (0 : Int) ≤ (j : Int) := by omega
      have hw2 : IntKind.i64.wrap (a - b) = a - b := IntWalk.i64_in _ (by omega)
      go_wp2
      have hb1 : ad1.block < wr.heap.size := cell_lt_add hc1
      have hb2 : ad2.block < wr.heap.size := cell_lt_add hc2
      go_region_held3 (fun w' => w'.cell? (ad1.add j) = some (.int .i64 a) ∧ w'.cell? (ad2.add j) = some (.int .i64 b))
        (first | go_keep | (go_split_ands; exact ⟨(hgrow.cell_far _ (by rw [add_block]; simp; omega) (by rw [add_block]; exact fun e => by have := (HO.out.lt _ e.symm).1; omega)).trans (by assumption), (hgrow.cell_far _ (by rw [add_block]; simp; omega) (by rw [add_block]; exact fun e => by have := (HO.out.lt _ e.symm).1; omega)).trans (by assumption)⟩))
        ((refine step_append_lies _ (by rfl) _ _ _ (by rfl) w.heap.size 3 i0 _ 1 8 Tryz.underlying41 hi0 hz0 hz1 hz2 rfl (by omega) u5 j _ (by rfl) ((HO.out.alloc _).drew) ⟨wr.heap.size, 0, Option.none⟩ 1 1 [.int .i64 (a - b)] (by rfl) (by rfl) (World.news_of_block (cs := #[.int .i64 (a - b)]) (t := 3) (fr := (0, 0)) (heap_alloc_new wr _)) (by simp [Value.oneCell']) (by omega) (by unfold maxLen; omega) (by omega) (by have := hbw.size; simp; omega) (wr.heap.size + 1) (by simp) ?_; intro gg cap w3 hown3 hgrow hat hlt3))
      clear hw2
      go_wp2
      go_roundw
      case rel =>
        refine ⟨j + 1, by omega, by go_num, ?_, ?_⟩
        · rw [E3.out, is_append]; exact hown3
        · exact ((hbw.alloc hbw.size _).drew).grown hgrow (by have := hbw.size; simp; omega) (fun k hk => (HO.out.lt k hk).1)
      case measure => simp [intOf]; omega
    · obtain rfl : j = x.length := by omega
      have HRI : Hid (ORow wr u5 (difI x y)) := Lib.hid (by
        have h := HO.out
        rw [HDI.out] at h
        have h2 : wr.ownsRow w.heap.size 3 1 u5 (difI x y).length (is (difI x y)) := by rw [difI_len]; exact h
        exact ORow.of_own h2)
      obtain ⟨AR, cr, e9⟩ := HRI.out.shape
      subst e9
      clear HO
      go_wp2_with fail
      go_ret
      exact ⟨⟨_, rfl, HRI.out⟩, hbw⟩

set_option maxRecDepth 100000 in
set_option maxHeartbeats 4000000 in
theorem rooted_any39 (A : Option Addr) (c : Nat) (l : List (List Int)) (k0 : Nat) (w : World) (hl : RowsAt w w.heap.size A l) (hk0 : k0 < l.length) (hn : l.length ≤ 1000) (n : Nat) (hn2 : n ≤ 1000) (hln : ∀ x ∈ l, x.length = n) (hb : ∀ x ∈ l, ∀ j : Nat, (x[j]?.getD 0).natAbs ≤ 1000000) :
    Calls Tryz.prog 24 #[.slice A l.length c, .int .i64 k0] w fun e w' => (∃ v, e = .returned v ∧ LRow w' w.heap.size v (rootL l l[k0])) ∧ Below w.heap.size w w' := by
  obtain ⟨i0, hi0, hz0, hz1, hz2⟩ := info_parts Tryz.info_row
  obtain ⟨b, o, rv, rfl, hab, hca, hrow⟩ := rows_pl hl (List.getElem?_eq_getElem hk0)
  have HL : Box (RowsAt w w.heap.size (some ⟨b, o, Option.none⟩) l) := ⟨hl⟩
  have HLN : Box (∀ x ∈ l, x.length = n) := ⟨hln⟩
  have HBD : Box (∀ x ∈ l, ∀ j : Nat, (x[j]?.getD 0).natAbs ≤ 1000000) := ⟨hb⟩
  have HR := Lib.hid hrow
  have HRL := Lib.hid (hln _ (List.getElem_mem hk0))
  have HRB : Box (∀ j : Nat, ((l[k0]'hk0)[j]?.getD 0).natAbs ≤ 1000000) := ⟨hb _ (List.getElem_mem hk0)⟩
  have hk0i : (k0 : Int) < (l.length : Int) := by omega
  have hk00 : (0 : Int) ≤ (k0 : Int) := by omega
  generalize l[k0]'hk0 = r at *
  obtain ⟨AR, cr, rfl⟩ := hrow.shape
  clear hl hln hb hrow
  go_enter Tryz.func24, Tryz.ntmps24
  go_wp2_with fail
  go_loopw [5, 10] (fun out i wr => ∃ (k : Nat), k ≤ l.length ∧ i = .int .i64 k ∧ LRow wr w.heap.size out (rootL (l.take k) r) ∧ Below w.heap.size w wr) (fun _ i _ => l.length - (intOf i).toNat)
  case atStart => exact ⟨0, Nat.zero_le _, rfl, LRow.nil _ _, Below.refl _ _⟩
  case round =>
    obtain ⟨k, hk, rfl, hlr, hbw⟩ := hrel
    by_cases hlt : k < l.length
    · obtain ⟨b', o', xv, e', hab2, hcx, hrox⟩ := rows_pl HL.out (List.getElem?_eq_getElem hlt)
      cases e'
      have hcx' := (hbw.cell (p := ⟨b, o + k, Option.none⟩) hab2).trans hcx
      have hca' := (hbw.cell (p := ⟨b, o + k0, Option.none⟩) hab).trans hca
      have HXL := Lib.hid (HLN.out _ (List.getElem_mem hlt))
      have HXB : Box (∀ j : Nat, ((l[k]'hlt)[j]?.getD 0).natAbs ≤ 1000000) := ⟨HBD.out _ (List.getElem_mem hlt)⟩
      have HNX := Lib.hid (rootL_snoc (r := r) hlt)
      have HLE : Hid ((rootL (l.take k) r).length = k) := Lib.hid (by rw [rootL_len, List.length_take]; omega)
      generalize l[k]'hlt = x at *
      have HSU := Lib.hid (sub_any39 xv _ x r wr (hrox.lift hbw) (HR.out.lift hbw) (by rw [HXL.out, HRL.out]) (by rw [HXL.out]; exact hn2) (fun j => ⟨HXB.out j, HRB.out j⟩))
      obtain ⟨AX, cx, rfl⟩ := hrox.shape
      have HLR := Lib.hid hlr
      have HB := Lib.hid hbw
      clear hlr hbw hcx hrox
      go_wp2_with fail
      refine HSU.out.mono ?_
      rintro e w1 ⟨⟨v, rfl, hor⟩, hb1⟩
      have HB1 := Lib.hid (HB.out.trans (hb1.mono HB.out.size))
      have HLR1 := Lib.hid (HLR.out.below hb1)
      clear hb1 HLR HB HSU
      have HOR := Lib.hid hor
      obtain ⟨AD, cd, rfl⟩ := hor.shape
      obtain ⟨vs, hown, hvs⟩ := HLR1.out
      rw [HLE.out] at hown
      have HO := Lib.hid hown
      have HVS := Lib.hid hvs
      have hwk : w.heap.size ≤ w1.heap.size := HB1.out.size
      clear hor hown hvs
      go_wp2_with (at_builtin; refine wpList_append_own _ rfl _ _ _ rfl w.heap.size 41 i0 (.slice Option.none 0 0) 1 24 Tryz.underlying30 hi0 hz0 hz1 hz2 rfl (by decide) _ _ _ rfl (HO.out.alloc _) ⟨w1.heap.size, 0, Option.none⟩ 1 1 [_] rfl rfl (cell_one_new _ _ _) (by intro u hu; simp at hu; subst hu; rfl) (by unfold maxLen; omega) (by omega) (by simp; omega) ?_; intro v9 w9 hown9 hg9 _)
      go_roundw
      case rel =>
        refine ⟨k + 1, by omega, by go_num, ?_, (HB1.out.alloc hwk _).grown hg9 (by simp; omega) (fun k hk => (HO.out.lt k hk).1)⟩
        rw [HNX.out]
        have hO := HO.out
        rw [← HLE.out] at hO hown9
        exact LRow.snoc (hO.alloc _) (fun j y hj => by obtain ⟨u, h1, h2⟩ := HVS.out j y hj; exact ⟨u, h1, h2.alloc _⟩) (HOR.out.alloc _) hown9 hg9
      case measure => simp [intOf]; omega
    · obtain rfl : k = l.length := by omega
      rw [List.take_length] at hlr
      have HLR := Lib.hid hlr
      obtain ⟨A1, c1, rfl⟩ := hlr.shape
      clear hlr
      go_wp2_with fail
      go_ret
      exact ⟨⟨_, rfl, HLR.out⟩, hbw⟩

end Go.Proofs.YtaiglcbgllnciaaGreatDoor
