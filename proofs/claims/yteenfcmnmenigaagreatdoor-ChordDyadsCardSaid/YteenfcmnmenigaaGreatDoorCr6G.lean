/- chord.Dyads of a right chord. -/
import Derived.Test.YteenfcmnmenigaaGreatDoorGCD
namespace Go.Proofs.YteenfcmnmenigaaGreatDoor
open Go.RowKit Go.Lib

/-- The differences to the first k notes, of the notes after each. -/
def dyTo (l : List (List Int)) : Nat → List (List Int)
  | 0 => []
  | k + 1 => dyTo l k ++ rootL (l.drop (k + 1)) (l[k]?.getD [])
def dyadsL (l : List (List Int)) : List (List Int) := dyTo l l.length
theorem mem_dyTo {l : List (List Int)} {x : List Int} : ∀ k, x ∈ dyTo l k ↔ ∃ j, j < k ∧ x ∈ rootL (l.drop (j + 1)) (l[j]?.getD [])
  | 0 => by simp [dyTo]
  | k + 1 => by
    rw [dyTo, List.mem_append, mem_dyTo k]
    constructor
    · rintro (⟨j, h1, h2⟩ | h)
      · exact ⟨j, by omega, h2⟩
      · exact ⟨k, by omega, h⟩
    · rintro ⟨j, h1, h2⟩
      by_cases e : j = k
      · subst e; exact .inr h2
      · exact .inl ⟨j, by omega, h2⟩

theorem RowsAt.drop {w : World} {B b o : Nat} {l : List (List Int)} (h : RowsAt w B (some ⟨b, o, Option.none⟩) l) (i : Nat) : RowsAt w B (some ⟨b, o + i, Option.none⟩) (l.drop i) := by
  refine ⟨fun k x hx => ?_⟩
  rw [List.getElem?_drop] at hx
  obtain ⟨ad, v, e, h1, h2, h3⟩ := h.get _ x hx
  cases e
  rw [Lib.add_plain] at h2
  refine ⟨_, v, rfl, h1, ?_, h3⟩
  rw [Lib.add_plain, Nat.add_assoc]
  exact h2

/-- One list more. -/
theorem LRow.join {w w' : World} {base : Nat} {v v' : Value} {l m : List (List Int)} {vs us : List Value} (h1 : w.ownsRow base 31 1 v l.length vs) (h2 : ∀ (j : Nat) (x : List Int), l[j]? = some x → ∃ u, vs[j]? = some u ∧ ORow w u x) (hx : ∀ (j : Nat) (x : List Int), m[j]? = some x → ∃ u, us[j]? = some u ∧ ORow w u x)
    (hown : w'.ownsRow base 31 1 v' (l.length + m.length) (vs ++ us)) (hg : w.grownBy w' v.ownBlock) : LRow w' base v' (l ++ m) := by
  have hvl : vs.length = l.length := by have := h1.1; omega
  refine ⟨vs ++ us, by rw [List.length_append]; exact hown, fun j y hj => ?_⟩
  by_cases hjl : j < l.length
  · rw [List.getElem?_append_left hjl] at hj
    obtain ⟨t, h3, h4⟩ := h2 j y hj
    exact ⟨t, by rw [List.getElem?_append_left (by omega)]; exact h3, h4.grown h1 (by decide) hg⟩
  · rw [List.getElem?_append_right (by omega)] at hj
    obtain ⟨t, h3, h4⟩ := hx _ y hj
    exact ⟨t, by rw [List.getElem?_append_right (by omega), hvl]; exact h3, h4.grown h1 (by decide) hg⟩

/-- What Dyads returns of a right chord. -/
def DyPost (p : List Int) (l : List (List Int)) (base : Nat) (e : Ending) (w' : World) : Prop :=
  ((∀ x ∈ dyadsL l, chkAll p [x] = 0) ∧ ∃ v, e = .returned (.tuple #[v, .int .i64 0]) ∧ LRow w' base v (dyadsL l)) ∨
  ((∃ x ∈ dyadsL l, chkAll p [x] ≠ 0) ∧ e = .returned (.tuple #[.slice Option.none 0 0, .int .i64 4]))

set_option maxRecDepth 100000 in
set_option maxHeartbeats 400000 in
theorem chDyads_ok (pv : Value) (p : List Int) (A : Option Addr) (c : Nat) (l : List (List Int)) (w : World) (hS : Std w) (hp : IsRow w w.heap.size pv p) (hl : RowsAt w w.heap.size A l) (hk : ChOk p l) (hlc : l.length ≤ c) (hcm : c ≤ 9223372036854775807) :
    Calls Tryz.prog 16 #[pv, .slice A l.length c] w fun e w' => DyPost p l w.heap.size e w' ∧ Below w.heap.size w w' := by
  obtain ⟨i0, hi0, hz0, hz1, hz2⟩ := info_parts Tryz.info_row
  have h0 := hk.pos
  have h12 := hk.le
  have HC := Lib.hid (chCheck_any pv p A c l w hS hp hl (by omega))
  rw [hk.err] at HC
  obtain ⟨b, o, rv, rfl, hab, _, _⟩ := rows_pl hl (List.getElem?_eq_getElem h0)
  have HS := Lib.hid hS
  have HP := Lib.hid hp
  have HL : Box (RowsAt w w.heap.size (some ⟨b, o, Option.none⟩) l) := ⟨hl⟩
  have HCK : Box (∀ x ∈ l, chkAll p [x] = 0) := ⟨hk.chk⟩
  obtain ⟨AP, cp, rfl⟩ := hp.shape
  clear hS hp hl hk
  go_enter Tryz.func16, Tryz.ntmps16
  go_wp2_with fail
  refine HC.out.mono ?_
  rintro e w1 ⟨rfl, hb1⟩
  have HB1 := Lib.hid hb1
  clear hb1 HC
  go_wp2_with fail
  go_loopw [7, 20] (fun out i wr => ∃ (k : Nat), k ≤ l.length ∧ i = .int .i64 k ∧ Box (∀ x ∈ dyTo l k, chkAll p [x] = 0) ∧ Box ((dyTo l k).length ≤ 12 * k) ∧ LRow wr w1.heap.size out (dyTo l k) ∧ Below w1.heap.size w1 wr) (fun _ i _ => l.length - (intOf i).toNat)
  case atStart => exact ⟨0, Nat.zero_le _, rfl, ⟨fun x h => by cases h⟩, ⟨Nat.le_refl _⟩, LRow.nil _ _, Below.refl _ _⟩
  case round =>
    obtain ⟨k, hk, rfl, HD, HLE, hlr, hbw⟩ := hrel
    by_cases hlt : k < l.length
    · have HBW := Lib.hid (HB1.out.trans (hbw.mono HB1.out.size))
      obtain ⟨b', o', xv, e', hab', hca, hrow⟩ := rows_pl HL.out (List.getElem?_eq_getElem hlt)
      cases e'
      have hca' := (HBW.out.cell (p := ⟨b, o + k, Option.none⟩) hab').trans hca
      have HNX : Hid (dyTo l (k + 1) = dyTo l k ++ rootL (l.drop (k + 1)) l[k]) := Lib.hid (by rw [dyTo, List.getElem?_eq_getElem hlt]; rfl)
      have HRT0 : Box (∀ (A3 : Option Addr) (c3 : Nat), RowsAt w w.heap.size A3 (l.drop (k + 1)) → Calls Tryz.prog 47 #[.slice AP p.length cp, .slice A3 (l.length - (k + 1)) c3, xv] wr fun e w' => RootPost p (l.drop (k + 1)) l[k] wr.heap.size e w' ∧ Below wr.heap.size wr w') := ⟨fun A3 c3 h => by
        have h2 := rooted_any (.slice AP p.length cp) xv p l[k] A3 c3 (l.drop (k + 1)) wr (HS.out.below HBW.out (Nat.le_refl _)) (HP.out.lift HBW.out) (hrow.lift HBW.out) (h.lift HBW.out) (fun x hx => HCK.out x (List.mem_of_mem_drop hx)) (HCK.out _ (List.getElem_mem hlt)) (by rw [List.length_drop]; omega)
        rw [List.length_drop] at h2
        exact h2⟩
      have HRD : Box (RowsAt w w.heap.size (some ⟨b, o + (k + 1), Option.none⟩) (l.drop (k + 1))) := ⟨RowsAt.drop HL.out (k + 1)⟩
      have HRE : Hid (c = k + 1 → RowsAt w w.heap.size (some ⟨b, o, Option.none⟩) (l.drop (k + 1))) := Lib.hid fun hck => by
        rw [List.drop_eq_nil_of_le (by omega)]
        exact ⟨fun k x hx => by simp at hx⟩
      have HXN : Hid ((rootL (l.drop (k + 1)) l[k]).length = l.length - (k + 1)) := Lib.hid (by rw [rootL_len, List.length_drop])
      have HBAD : Hid (∀ x, x ∈ rootL (l.drop (k + 1)) l[k] → x ∈ dyadsL l) := Lib.hid fun x hx => (mem_dyTo _).2 ⟨k, hlt, by rw [List.getElem?_eq_getElem hlt]; exact hx⟩
      have HMR : Hid (∀ y ∈ l.drop (k + 1), difI y l[k] ∈ rootL (l.drop (k + 1)) l[k]) := Lib.hid fun y hy => List.mem_map.2 ⟨y, hy, rfl⟩
      have HMI : Hid (∀ z ∈ rootL (l.drop (k + 1)) l[k], ∃ y ∈ l.drop (k + 1), difI y l[k] = z) := Lib.hid fun z hz => List.mem_map.1 hz
      have hwk : IntKind.i64.wrap ((k : Int) + 1) = (k : Int) + 1 := IntWalk.i64_in _ (by omega)
      generalize l[k]'hlt = r at *
      obtain ⟨AX, cx, rfl⟩ := hrow.shape
      have HLR := Lib.hid hlr
      have HB := Lib.hid hbw
      clear hlr hbw hca hrow
      have hck : c = k + 1 ∨ ¬ c = k + 1 := Decidable.em _
      rcases hck with hck | hck
      · have h00 : l.length - (k + 1) = 0 := by omega
        have HRT := Lib.hid (HRT0.out (some ⟨b, o, Option.none⟩) 0 (HRE.out hck))
        rw [h00] at HRT
        clear h00
        subst hck
        clear HRT0 HRD HRE
        go_wp2_with fail
        refine HRT.out.mono ?_
        rintro e w2 ⟨hpo, hb2⟩
        have HB2 := Lib.hid (HB.out.trans (hb2.mono HB.out.size))
        have HBW2 := Lib.hid (HBW.out.trans (hb2.mono HBW.out.size))
        have HLR2 := Lib.hid (HLR.out.below hb2)
        clear hb2 HRT
        rcases hpo with ⟨hx, v, rfl, hl2⟩ | ⟨hx, rfl⟩
        · have HDN : Box (∀ x ∈ dyTo l (k + 1), chkAll p [x] = 0) := ⟨fun x hx' => by
            rw [HNX.out] at hx'
            rcases List.mem_append.1 hx' with h | h
            · exact HD.out x h
            · obtain ⟨y, hy, rfl⟩ := HMI.out x h
              exact hx y hy⟩
          have HLN : Box ((dyTo l (k + 1)).length ≤ 12 * (k + 1)) := ⟨by rw [HNX.out, List.length_append, HXN.out]; have := HLE.out; omega⟩
          clear hx HBAD HMR HMI
          generalize rootL (l.drop (k + 1)) r = m at *
          obtain ⟨us, hown2, hus⟩ := hl2
          obtain ⟨vs, hown, hvs⟩ := HLR2.out
          have HO := Lib.hid hown
          have HVS := Lib.hid hvs
          have HUS := Lib.hid hus
          have hle := HLE.out
          rcases hown2.2 with ⟨rfl, hz⟩ | ⟨g, cap, cur, rfl, hg1, hg2, hg3, hg4, hg5, hg6⟩
          · have hm0 : m = [] := List.eq_nil_of_length_eq_zero hz
            have HNX2 : Hid (dyTo l (k + 1) = dyTo l k) := Lib.hid (by rw [HNX.out, hm0, List.append_nil])
            clear hown2 hus hown hvs HNX HUS
            go_wp2_with (at_builtin; refine wpList_append_own_none rfl _ _ _ rfl w1.heap.size 31 i0 1 Tryz.underlying24 hi0 _ (dyTo l k).length vs rfl HO.out rfl ?_)
            go_roundw
            case rel =>
              refine ⟨k + 1, by omega, by go_num, HDN, HLN, ?_, HB2.out⟩
              rw [HNX2.out]
              exact ⟨vs, HO.out, HVS.out⟩
            case measure => simp [intOf]; omega
          · have hul : us.length = m.length := by have := hown2.1; omega
            have hcs : ∀ (j : Nat) u, us[j]? = some u → w2.cell? (Addr.add ⟨g, 0, Option.none⟩ j) = some u := fun j u hu => by
              have hj := (List.getElem?_eq_some_iff.1 hu).1
              rw [Lib.add_plain, Nat.zero_add]
              exact (hown2.cellAt j (by omega)).trans hu
            have HCS := Lib.hid hcs
            have hone : ∀ u ∈ us, ∃ A n c, u = .slice A n c := fun u hu => by
              obtain ⟨j, hj, rfl⟩ := List.getElem_of_mem hu
              obtain ⟨t, h1, h2⟩ := hus j m[j] (List.getElem?_eq_getElem (by omega))
              rw [List.getElem?_eq_getElem hj] at h1
              cases h1
              obtain ⟨A, c, e⟩ := h2.shape
              exact ⟨A, _, c, e⟩
            have HON := Lib.hid hone
            have HUL := Lib.hid hul
            have hmn := HXN.out
            have hwk : w1.heap.size ≤ w2.heap.size := HB2.out.size
            clear hown2 hus hown hvs hone hcs hg2 hg6
            go_wp2_with (at_builtin; refine wpList_append_own _ rfl _ _ _ rfl w1.heap.size 31 i0 (.slice Option.none 0 0) 1 24 Tryz.underlying24 hi0 hz0 hz1 hz2 rfl (by decide) _ _ _ rfl HO.out ⟨g, 0, Option.none⟩ 0 cap us rfl (by rw [HUL.out, HXN.out]; omega) HCS.out (by intro u hu; obtain ⟨A1, n1, c1, rfl⟩ := HON.out u hu; rfl) (by unfold maxLen; omega) (by omega) (by omega) ?_; intro v9 w9 hown9 hg9 _)
            go_roundw
            case rel =>
              refine ⟨k + 1, by omega, by go_num, HDN, HLN, ?_, HB2.out.grown hg9 (by omega) (fun k hk => (HO.out.lt k hk).1)⟩
              rw [HNX.out]
              exact LRow.join HO.out HVS.out HUS.out (by rw [HXN.out, show l.length - (k + 1) = 0 by omega]; exact hown9) hg9
            case measure => simp [intOf]; omega
        · have HX : Box (∃ x ∈ dyadsL l, chkAll p [x] ≠ 0) := ⟨by
            obtain ⟨y, hy, h⟩ := hx
            exact ⟨_, HBAD.out _ (HMR.out y hy), h⟩⟩
          clear hx HD
          go_wp2_with fail
          go_ret2
          exact ⟨.inr ⟨HX.out, rfl⟩, HBW2.out⟩
      · have HRT := Lib.hid (HRT0.out (some ⟨b, o + (k + 1), Option.none⟩) (c - (k + 1)) HRD.out)
        clear HRT0 HRD HRE
        go_wp2_with fail
        refine HRT.out.mono ?_
        rintro e w2 ⟨hpo, hb2⟩
        have HB2 := Lib.hid (HB.out.trans (hb2.mono HB.out.size))
        have HBW2 := Lib.hid (HBW.out.trans (hb2.mono HBW.out.size))
        have HLR2 := Lib.hid (HLR.out.below hb2)
        clear hb2 HRT
        rcases hpo with ⟨hx, v, rfl, hl2⟩ | ⟨hx, rfl⟩
        · have HDN : Box (∀ x ∈ dyTo l (k + 1), chkAll p [x] = 0) := ⟨fun x hx' => by
            rw [HNX.out] at hx'
            rcases List.mem_append.1 hx' with h | h
            · exact HD.out x h
            · obtain ⟨y, hy, rfl⟩ := HMI.out x h
              exact hx y hy⟩
          have HLN : Box ((dyTo l (k + 1)).length ≤ 12 * (k + 1)) := ⟨by rw [HNX.out, List.length_append, HXN.out]; have := HLE.out; omega⟩
          clear hx HBAD HMR HMI
          generalize rootL (l.drop (k + 1)) r = m at *
          obtain ⟨us, hown2, hus⟩ := hl2
          obtain ⟨vs, hown, hvs⟩ := HLR2.out
          have HO := Lib.hid hown
          have HVS := Lib.hid hvs
          have HUS := Lib.hid hus
          have hle := HLE.out
          rcases hown2.2 with ⟨rfl, hz⟩ | ⟨g, cap, cur, rfl, hg1, hg2, hg3, hg4, hg5, hg6⟩
          · have hm0 : m = [] := List.eq_nil_of_length_eq_zero hz
            have HNX2 : Hid (dyTo l (k + 1) = dyTo l k) := Lib.hid (by rw [HNX.out, hm0, List.append_nil])
            clear hown2 hus hown hvs HNX HUS
            go_wp2_with (at_builtin; refine wpList_append_own_none rfl _ _ _ rfl w1.heap.size 31 i0 1 Tryz.underlying24 hi0 _ (dyTo l k).length vs rfl HO.out rfl ?_)
            go_roundw
            case rel =>
              refine ⟨k + 1, by omega, by go_num, HDN, HLN, ?_, HB2.out⟩
              rw [HNX2.out]
              exact ⟨vs, HO.out, HVS.out⟩
            case measure => simp [intOf]; omega
          · have hul : us.length = m.length := by have := hown2.1; omega
            have hcs : ∀ (j : Nat) u, us[j]? = some u → w2.cell? (Addr.add ⟨g, 0, Option.none⟩ j) = some u := fun j u hu => by
              have hj := (List.getElem?_eq_some_iff.1 hu).1
              rw [Lib.add_plain, Nat.zero_add]
              exact (hown2.cellAt j (by omega)).trans hu
            have HCS := Lib.hid hcs
            have hone : ∀ u ∈ us, ∃ A n c, u = .slice A n c := fun u hu => by
              obtain ⟨j, hj, rfl⟩ := List.getElem_of_mem hu
              obtain ⟨t, h1, h2⟩ := hus j m[j] (List.getElem?_eq_getElem (by omega))
              rw [List.getElem?_eq_getElem hj] at h1
              cases h1
              obtain ⟨A, c, e⟩ := h2.shape
              exact ⟨A, _, c, e⟩
            have HON := Lib.hid hone
            have HUL := Lib.hid hul
            have hmn := HXN.out
            have hwk : w1.heap.size ≤ w2.heap.size := HB2.out.size
            clear hown2 hus hown hvs hone hcs hg2 hg6
            go_wp2_with (at_builtin; refine wpList_append_own _ rfl _ _ _ rfl w1.heap.size 31 i0 (.slice Option.none 0 0) 1 24 Tryz.underlying24 hi0 hz0 hz1 hz2 rfl (by decide) _ _ _ rfl HO.out ⟨g, 0, Option.none⟩ (l.length - (k + 1)) cap us rfl (by rw [HUL.out, HXN.out, Nat.mul_one]) HCS.out (by intro u hu; obtain ⟨A1, n1, c1, rfl⟩ := HON.out u hu; rfl) (by unfold maxLen; omega) (by omega) (by omega) ?_; intro v9 w9 hown9 hg9 _)
            go_roundw
            case rel =>
              refine ⟨k + 1, by omega, by go_num, HDN, HLN, ?_, HB2.out.grown hg9 (by omega) (fun k hk => (HO.out.lt k hk).1)⟩
              rw [HNX.out]
              exact LRow.join HO.out HVS.out HUS.out (by rw [HXN.out]; exact hown9) hg9
            case measure => simp [intOf]; omega
        · have HX : Box (∃ x ∈ dyadsL l, chkAll p [x] ≠ 0) := ⟨by
            obtain ⟨y, hy, h⟩ := hx
            exact ⟨_, HBAD.out _ (HMR.out y hy), h⟩⟩
          clear hx HD
          go_wp2_with fail
          go_ret2
          exact ⟨.inr ⟨HX.out, rfl⟩, HBW2.out⟩
    · obtain rfl : k = l.length := by omega
      have HLR := Lib.hid hlr
      obtain ⟨A1, c1, rfl⟩ := hlr.shape
      clear hlr
      go_wp2_with fail
      go_ret2
      exact ⟨.inl ⟨HD.out, _, rfl, HLR.out.base HB1.out.size⟩, HB1.out.trans (hbw.mono HB1.out.size)⟩

end Go.Proofs.YteenfcmnmenigaaGreatDoor
