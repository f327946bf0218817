/- size.floor, checkQuotient, Floor: the walks. size.checkQuotient, size.Floor. slices.Grow, slices.Concat of one row, interval.open. interval.open of one row, sizes, unit. -/
import Derived.Test.YteenfcmnmenigaaGreatDoorGTD
import Derived.Test.YteenfcmnmenigaaGreatDoorGB
import Derived.Test.YteenfcmnmenigaaGreatDoorGG
import Derived.Laws.AppendOwnNone
namespace Go.Proofs.YteenfcmnmenigaaGreatDoor
open Go.RowKit Go.Lib
attribute [local go_sem ↓] Go.wp_at_zero Go.wp_at_succ

theorem nzP_uni {p : List Int} (n : Nat) : ∀ k, nzTo (uni n) (k + 1) = [0]
  | 0 => by simp [nzTo, uni]
  | k + 1 => by
    have e : (uni n)[k + 1]?.getD 0 = 0 := by
      unfold uni
      rw [List.getElem?_cons_succ, List.getElem?_replicate]
      split <;> rfl
    rw [nz_zero e, nzP_uni (p := p) n k]

theorem terms_z {w' : World} {v : Value} {p x : List Int} {k : Nat} {zs : List Trm} (hx : x.length = k) (h1 : trmP zs = nzP p x k) (h2 : trmF zs = nzF x k) (h : TermsV w' v p x) : ∃ v1 v2, v = .agg #[v1, v2, .string ⟨#[49]⟩] ∧ IsRow w' w'.heap.size v1 (trmP zs) ∧ IsZs w' w'.heap.size v2 (trmF zs) := by
  obtain ⟨v1, v2, h3, h4, h5⟩ := h
  rw [hx] at h4 h5
  exact ⟨v1, v2, h3, by rw [h1]; exact h4, by rw [h2]; exact h5⟩

set_option maxRecDepth 100000 in
set_option maxHeartbeats 4000000 in
theorem szFloor (pv av bv : Value) (p x : List Int) (n : Nat) (q : Int) (w : World) (hS : Std w) (hp : IsRow w w.heap.size pv p) (ha : IsSize w w.heap.size av x) (hb : IsSize w w.heap.size bv (uni n)) (h : FlOk p x n q) :
    Calls Tryz.prog 210 #[pv, av, bv] w fun e w' => e = .returned (.string ⟨(itoa q).toArray⟩) ∧ Below w.heap.size w w' := by
  have HR := Lib.hid (szRatio av bv x n w hS (by have := h.le; omega) ha hb h.len h.small)
  have HS := Lib.hid hS
  have HFl : Box (FlOk p x n q) := ⟨h⟩
  have HP := Lib.hid hp
  have HA := Lib.hid ha
  have HB := Lib.hid hb
  obtain ⟨AP, cp, rfl, _, _, _⟩ := hp
  obtain ⟨AA, ca, rfl, _, _, _⟩ := ha
  obtain ⟨AB, cb, rfl, _, _, _⟩ := hb
  clear hS h
  go_enter Tryz.func210, Tryz.ntmps210
  go_wp2_with fail
  refine HR.out.mono ?_
  rintro e w1 ⟨rfl, hb1⟩
  by_cases hpt : pureT x = true
  · rw [hpt]
    have hq : q = x[0]?.getD 0 := by
      rcases HFl.out.dec with ⟨_, h⟩ | ⟨h, _⟩
      · exact h
      · rw [hpt] at h; cases h
    have hx0 : (x[0]?.getD 0).natAbs ≤ 1000000 := by
      rw [List.getElem?_eq_getElem (by have := HFl.out.len; omega)]
      exact HFl.out.small _ (List.getElem_mem _)
    rw [← hq] at hx0 ⊢
    have hba : Below w.heap.size w (w1.alloc (.cells #[.string ⟨(itoa q).toArray⟩, .string ⟨#[49]⟩] 72)) := hb1.alloc hb1.size _
    have HF := Lib.hid (fFloor_one q _ (HS.out.below hba (Nat.le_refl _)) hx0)
    have HBA := Lib.hid hba
    have n0 := Cells.new w1 72 #[.string ⟨(itoa q).toArray⟩, .string ⟨#[49]⟩]
    clear hb1 hx0 hq hba
    generalize hzl : itoa q = l at *
    have HZL := Lib.hid hzl
    clear hzl
    go_wp2_with fail
    refine HF.out.mono ?_
    rintro e w2 ⟨rfl, hb2⟩
    have HB2 := Lib.hid (HBA.out.trans (hb2.mono HBA.out.size))
    clear hb2
    go_wp2_with fail
    go_ret
    exact ⟨by rw [HZL.out]; rfl, HB2.out⟩
  · have hpt2 : pureT x = false := by simpa using hpt
    rw [hpt2]
    have hdec : quotQ (nearLo p x (n + 1)) (nearHi p x (n + 1)) (lgA (p[0]?.getD 0)) (lgB (p[0]?.getD 0)) = some q := by
      rcases HFl.out.dec with ⟨h, _⟩ | ⟨_, h⟩
      · rw [hpt2] at h; cases h
      · exact h
    obtain ⟨zs, z1, z2, z3, z4, z5⟩ := terms_trm (p := p) (x := x) (n + 1) HFl.out.good
    obtain ⟨us, y1, y2, y3, y4, y5⟩ := terms_trm (p := p) (x := uni n) (n + 1) (fun i hi h0 => by
      by_cases hi0 : i = 0
      · subst hi0; exact HFl.out.p0
      · exfalso
        apply h0
        unfold uni
        obtain ⟨j, rfl⟩ : ∃ j, i = j + 1 := ⟨i - 1, by omega⟩
        rw [List.getElem?_cons_succ, List.getElem?_replicate]
        split <;> rfl)
    rw [(near_uni n n).1, Int.min_eq_left (lg_pos HFl.out.p0).2] at y3
    rw [(near_uni n n).2, Int.max_eq_right (lg_pos HFl.out.p0).2] at y4
    rw [← z3, ← z4, ← y3, ← y4] at hdec
    have hpos : 0 < loZ us := by rw [y3]; exact (lg_pos HFl.out.p0).1
    have hz64 : zs.length ≤ 64 := by have := HFl.out.le; omega
    have hu64 : us.length ≤ 64 := by have := HFl.out.le; omega
    have HQ := Lib.hid (fun W v1 v2 u1 u2 h1 h2 h3 h4 => quotient_any v1 v2 u1 u2 zs us q W hz64 hu64 h1 h2 h3 h4 hpos hdec)
    have hxl := HFl.out.len
    have hpl := HFl.out.plen
    have hle := HFl.out.le
    have HT1 := Lib.hid (fun W hb => szTermsOf _ _ p x W (HS.out.below hb (Nat.le_refl _)) (HP.out.lift hb) (HA.out.lift hb) (by omega) HFl.out.small (by omega))
    have HT2 := Lib.hid (fun W hb => szTermsOf _ _ p (uni n) W (HS.out.below hb (Nat.le_refl _)) (HP.out.lift hb) (HB.out.lift hb) (by rw [uni_len]; omega) (uni_small n) (by rw [uni_len]; omega))
    have HWO := Lib.hid (fun W hb => whOf_any q W HFl.out.qb.1 HFl.out.qb.2 (HS.out.below (w := w) (B := w.heap.size) hb (Nat.le_refl _)))
    have HZ1 := Lib.hid (fun W v h => terms_z (w' := W) (v := v) hxl z1 z2 h)
    have HZ2 := Lib.hid (fun W v h => terms_z (w' := W) (v := v) (uni_len n) y1 y2 h)
    have HB1 := Lib.hid hb1
    clear hb1 hxl hpl hle z1 z2 z3 z4 z5 y1 y2 y3 y4 y5 hdec hpos hz64 hu64 hpt hpt2
    generalize hzl : itoa q = l at *
    have HZL := Lib.hid hzl
    clear hzl
    generalize itoa (x[0]?.getD 0) = l0 at *
    have hba : Below w.heap.size w (w1.alloc (.cells #[.string ⟨l0.toArray⟩, .string ⟨#[49]⟩] 72)) := HB1.out.alloc HB1.out.size _
    have HBA := Lib.hid hba
    clear hba
    go_wp2_with fail
    refine (HT1.out _ HBA.out).mono ?_
    rintro e w2 ⟨⟨v, rfl, hv⟩, hb2⟩
    obtain ⟨v1, v2, rfl, k1, k2⟩ := HZ1.out _ _ hv
    have HB2 := Lib.hid (HBA.out.trans (hb2.mono HBA.out.size))
    clear hb2 hv
    go_wp2_with fail
    refine (HT2.out _ HB2.out).mono ?_
    rintro e w3 ⟨⟨v, rfl, hv⟩, hb3⟩
    obtain ⟨u1, u2, rfl, k3, k4⟩ := HZ2.out _ _ hv
    have HB3 := Lib.hid (HB2.out.trans (hb3.mono HB2.out.size))
    have K1 := Lib.hid (k1.lift hb3)
    have K2 := Lib.hid (k2.lift hb3)
    have K3 := Lib.hid k3
    have K4 := Lib.hid k4
    obtain ⟨A1, d1, rfl, _⟩ := k1
    obtain ⟨A2, d2, rfl, _⟩ := k2
    obtain ⟨A3, d3, rfl, _⟩ := k3
    obtain ⟨A4, d4, rfl, _⟩ := k4
    clear hb3 hv
    have hb4 : Below w3.heap.size w3 ((w3.alloc (.cells #[.slice A1 (trmP zs).length d1, .slice A2 (trmF zs).length d2, .string ⟨#[49]⟩] 259)).alloc (.cells #[.slice A3 (trmP us).length d3, .slice A4 (trmF us).length d4, .string ⟨#[49]⟩] 259)) := ((Below.refl _ _).alloc (Nat.le_refl _) _).alloc (by simp) _
    have HQ2 := Lib.hid (HQ.out _ _ _ _ _ (K1.out.lift hb4) (K2.out.lift hb4) (K3.out.lift hb4) (K4.out.lift hb4))
    have HB4 := Lib.hid (HB3.out.trans (hb4.mono HB3.out.size))
    clear hb4
    go_wp2_with fail
    refine HQ2.out.mono ?_
    rintro e w5 ⟨rfl, hb5⟩
    have HB5 := Lib.hid (HB4.out.trans (hb5.mono HB4.out.size))
    clear hb5
    go_wp2_with fail
    refine (HWO.out _ HB5.out).mono ?_
    rintro e w6 ⟨rfl, hb6⟩
    have HB6 := Lib.hid (HB5.out.trans (hb6.mono HB5.out.size))
    clear hb6
    go_wp2_with fail
    go_ret
    exact ⟨by rw [HZL.out]; rfl, HB6.out⟩

end Go.Proofs.YteenfcmnmenigaaGreatDoor

namespace Go.Proofs.YteenfcmnmenigaaGreatDoor
open Go.RowKit Go.Lib

set_option maxRecDepth 100000 in
set_option maxHeartbeats 2000000 in
theorem szCheckQ (pv av bv : Value) (p x : List Int) (n : Nat) (w : World) (hS : Std w) (hp : IsRow w w.heap.size pv p) (ha : IsSize w w.heap.size av x) (hb : IsSize w w.heap.size bv (uni n)) (hpe : primeErr p = 0) (hx : x.length = n + 1) (hpl : p.length = n + 1) (hn : n ≤ 63) (hsm : SmallL x) :
    Calls Tryz.prog 209 #[pv, av, bv] w fun e w' => e = .returned (.int .i64 0) ∧ Below w.heap.size w w' := by
  have HS := Lib.hid hS
  have HP := Lib.hid hp
  have HA := Lib.hid ha
  have HB := Lib.hid hb
  obtain ⟨AP, cp, rfl, _, _, _⟩ := hp
  obtain ⟨AA, ca, rfl, _, _, _⟩ := ha
  obtain ⟨AB, cb, rfl, _, _, _⟩ := hb
  have hba : Below w.heap.size w (w.alloc (.cells #[.slice AA x.length ca, .slice AB (uni n).length cb] 213)) := (Below.refl _ _).alloc (Nat.le_refl _) _
  have hcc := Cells.new w 213 #[.slice AA x.length ca, .slice AB (uni n).length cb]
  have hsz : SizesAt (w.alloc (.cells #[.slice AA x.length ca, .slice AB (uni n).length cb] 213)) (w.alloc (.cells #[.slice AA x.length ca, .slice AB (uni n).length cb] 213)).heap.size (some ⟨w.heap.size, 0, Option.none⟩) [x, uni n] := ⟨fun k y hy => by
    match k, hy with
    | 0, hy =>
      cases hy
      exact ⟨_, _, rfl, by simp, by rw [Lib.add_plain]; exact hcc.cell 0, HA.out.lift hba⟩
    | 1, hy =>
      cases hy
      exact ⟨_, _, rfl, by simp, by rw [Lib.add_plain]; exact hcc.cell 1, HB.out.lift hba⟩
    | k + 2, hy => simp at hy⟩
  have HC := Lib.hid (szCheckAll _ p _ 2 [x, uni n] _ (HS.out.below hba (Nat.le_refl _)) (HP.out.lift hba) hpe hsz (fun y hy => by
    rcases List.mem_cons.1 hy with rfl | hy
    · exact ⟨by omega, hsm⟩
    · rw [List.mem_singleton.1 hy]; exact ⟨by rw [uni_len]; omega, uni_small n⟩) (by simp))
  have HT2 := Lib.hid (fun W hb => szTermsOf _ _ p (uni n) W (HS.out.below hb (Nat.le_refl _)) (HP.out.lift hb) (HB.out.lift hb) (by rw [uni_len]; omega) (uni_small n) (by rw [uni_len]; omega))
  have HBA := Lib.hid hba
  have HN1 : Box ((nzP p (uni n) (uni n).length).length = 1) := ⟨by unfold nzP; rw [uni_len, nzP_uni (p := p)]; rfl⟩
  clear hS hba hcc hsz hsm hx hpl
  rw [List.length_cons, List.length_cons, List.length_nil] at HC
  go_enter Tryz.func209, Tryz.ntmps209
  go_wp2_with fail
  refine HC.out.mono ?_
  rintro e w1 ⟨rfl, hb1⟩
  have HB1 := Lib.hid (HBA.out.trans (hb1.mono HBA.out.size))
  clear hb1
  go_wp2_with fail
  refine (HT2.out _ HB1.out).mono ?_
  rintro e w2 ⟨⟨v, rfl, v1, v2, rfl, k1, k2⟩, hb2⟩
  have HB2 := Lib.hid (HB1.out.trans (hb2.mono HB1.out.size))
  obtain ⟨A1, d1, rfl, _⟩ := k1
  rw [HN1.out]
  clear hb2 k2
  have hfd : ∀ W : World, (Instr.field 259 (.agg #[.slice A1 1 d1, v2, .string ⟨#[49]⟩]) 0).run Tryz.prog W = .ok (.slice A1 1 d1) W := fun _ => by kernel_rfl
  go_wp2_with fail
  go_ret
  exact ⟨rfl, HB2.out⟩

set_option maxHeartbeats 1000000 in
theorem szFloorF (pv av bv : Value) (p x : List Int) (n : Nat) (q : Int) (w : World) (hS : Std w) (hp : IsRow w w.heap.size pv p) (ha : IsSize w w.heap.size av x) (hb : IsSize w w.heap.size bv (uni n)) (hpe : primeErr p = 0) (h : FlOk p x n q) :
    Calls Tryz.prog 177 #[pv, av, bv] w fun e w' => e = .returned (.tuple #[.string ⟨(itoa q).toArray⟩, .int .i64 0]) ∧ Below w.heap.size w w' := by
  have HC := Lib.hid (szCheckQ pv av bv p x n w hS hp ha hb hpe h.len h.plen h.le h.small)
  have HF := Lib.hid (fun W (hw : Below w.heap.size w W) => szFloor pv av bv p x n q W (hS.below hw (Nat.le_refl _)) (hp.lift hw) (ha.lift hw) (hb.lift hw) h)
  obtain ⟨AP, cp, rfl, _, _, _⟩ := hp
  obtain ⟨AA, ca, rfl, _, _, _⟩ := ha
  obtain ⟨AB, cb, rfl, _, _, _⟩ := hb
  clear hS h hpe
  go_enter Tryz.func177, Tryz.ntmps177
  go_wp2_with fail
  refine HC.out.mono ?_
  rintro e w1 ⟨rfl, hb1⟩
  have HB1 := Lib.hid hb1
  clear hb1
  go_wp2_with fail
  refine (HF.out _ HB1.out).mono ?_
  rintro e w2 ⟨rfl, hb2⟩
  have HB2 := Lib.hid (HB1.out.trans (hb2.mono HB1.out.size))
  clear hb2
  go_wp2_with fail
  go_ret2
  exact ⟨rfl, HB2.out⟩

end Go.Proofs.YteenfcmnmenigaaGreatDoor

namespace Go.Proofs.YteenfcmnmenigaaGreatDoor
open Go.RowKit Go.Lib

theorem Tryz.info_row : (Tryz.prog.info? 31).map (fun i => (i.zero, i.size, i.bytes)) = some (some (.slice Option.none 0 0), 1, 24) := by kernel_rfl

set_option maxRecDepth 100000 in
set_option maxHeartbeats 1000000 in
theorem grow_one (w : World) :
    Calls Tryz.prog 207 #[.slice Option.none 0 0, .int .i64 1] w fun e w' => (∃ A c, e = .returned (.slice A 0 c) ∧ w'.ownsRow w.heap.size 31 1 (.slice A 0 c) 0 []) ∧ Below w.heap.size w w' := by
  obtain ⟨i0, hi0, hz0, hz1, hz2⟩ := info_parts Tryz.info_row
  go_enter Tryz.func207, Tryz.ntmps207
  go_wp2_with (at_builtin; refine wpList_zeros_own _ rfl _ _ _ _ rfl w.heap.size 31 i0 (.slice Option.none 0 0) 24 Tryz.underlying24 Tryz.underlying3 hi0 hz0 hz1 hz2 rfl rfl _ 0 [] rfl (World.ownsRow_nil _ _ _ _) 1 _ rfl rfl (by unfold maxLen; omega) (by omega) (Nat.le_refl _) ?_; intro v2 w2 hown2 hg2 _; obtain ⟨g2, c2, rfl⟩ := ownsRow_succ hown2)
  have hb2 : Below w.heap.size w w2 := (Below.refl _ _).grown hg2 (Nat.le_refl _) (fun k hk => by cases hk)
  have h3 := own_take hown2 (k := 0) (by omega)
  rw [List.take_zero] at h3
  go_ret
  exact ⟨⟨_, _, rfl, h3⟩, hb2⟩

set_option maxRecDepth 100000 in
set_option maxHeartbeats 2000000 in
theorem concat_one (b g : Nat) (xv : Value) (x : List Int) (w : World) (hb : Cells w b 24 [.slice Option.none 0 0, .slice (some ⟨g, 0, Option.none⟩) 1 1]) (hg : Cells w g 31 [xv]) (hx : IsRow w w.heap.size xv x) :
    Calls Tryz.prog 175 #[.slice (some ⟨b, 0, Option.none⟩) 2 2] w fun e w' => (∃ A c, e = .returned (.slice A 1 c) ∧ RowsAt w' w'.heap.size A [x]) ∧ Below w.heap.size w w' := by
  obtain ⟨i0, hi0, hz0, hz1, hz2⟩ := info_parts Tryz.info_row
  have HG := Lib.hid (grow_one w)
  have HX := Lib.hid hx
  obtain ⟨AX, cx, rfl⟩ := hx.shape
  have HCB := Lib.hid hb
  have HCG := Lib.hid hg
  have hb0 := hb.cell 0
  have hb1 := hb.cell 1
  simp at hb0 hb1
  have hlb := hb.lt
  have hlg := hg.lt
  clear hb hg hx
  go_enter Tryz.func175, Tryz.ntmps175
  go_wp2_with fail
  obtain ⟨wo, rfl⟩ : ∃ wo : World, wo = w := ⟨_, rfl⟩
  go_loopw [3, 11] (fun s i wr => ((i = .int .i64 0 ∧ s = .int .i64 0) ∨ (i = .int .i64 1 ∧ s = .int .i64 0) ∨ (i = .int .i64 2 ∧ s = .int .i64 1)) ∧ wr = wo) (fun _ i _ => 2 - (intOf i).toNat)
  case atStart => exact ⟨.inl ⟨rfl, rfl⟩, rfl⟩
  case round =>
    obtain ⟨⟨rfl, rfl⟩ | ⟨rfl, rfl⟩ | ⟨rfl, rfl⟩, rfl⟩ := hrel
    · go_wp2_with fail
      go_roundw
      case rel => exact ⟨.inr (.inl ⟨by go_num, by go_num⟩), trivial⟩
      case measure => simp [intOf]
    · go_wp2_with fail
      go_roundw
      case rel => exact ⟨.inr (.inr ⟨by go_num, by go_num⟩), trivial⟩
      case measure => simp [intOf]
    · obtain ⟨wo, rfl⟩ : ∃ wo : World, wo = wr := ⟨_, rfl⟩
      go_wp2_with fail
      refine HG.out.mono ?_
      rintro e w1 ⟨⟨A, c, rfl, hown⟩, hb⟩
      have HB1 := Lib.hid hb
      have HO := Lib.hid hown
      have q0 := (HCB.out.below hb HCB.out.lt).cell 0
      have q1 := (HCB.out.below hb HCB.out.lt).cell 1
      simp at q0 q1
      clear hb hown hb0 hb1
      go_wp2_with fail
      go_loopw [6, 27] (fun v i wr => ∃ A c, ((i = .int .i64 0 ∧ v = .slice A 0 c ∧ wr.ownsRow wo.heap.size 31 1 (.slice A 0 c) 0 []) ∨ (i = .int .i64 1 ∧ v = .slice A 0 c ∧ wr.ownsRow wo.heap.size 31 1 (.slice A 0 c) 0 []) ∨ (i = .int .i64 2 ∧ v = .slice A 1 c ∧ wr.ownsRow wo.heap.size 31 1 (.slice A 1 c) 1 [.slice AX x.length cx])) ∧ Below wo.heap.size wo wr) (fun _ i _ => 2 - (intOf i).toNat)
      case atStart => exact ⟨_, _, .inl ⟨rfl, rfl, HO.out⟩, HB1.out⟩
      case round =>
        clear HO HB1 q0 q1
        obtain ⟨A, c, ⟨rfl, rfl, hown⟩ | ⟨rfl, rfl, hown⟩ | ⟨rfl, rfl, hown⟩, hbw⟩ := hrel
        · have HO := Lib.hid hown
          have HB := Lib.hid hbw
          have q0 := (HCB.out.below hbw HCB.out.lt).cell 0
          simp at q0
          clear hown hbw
          go_wp2_with (at_builtin; refine wpList_append_own_none rfl _ _ _ rfl wo.heap.size 31 i0 1 Tryz.underlying24 hi0 _ 0 [] rfl HO.out rfl ?_)
          go_roundw
          case rel => exact ⟨_, _, .inr (.inl ⟨by go_num, rfl, HO.out⟩), HB.out⟩
          case measure => simp [intOf]
        · have HB := Lib.hid hbw
          have HO := Lib.hid hown
          have q1 := (HCB.out.below hbw HCB.out.lt).cell 1
          simp at q1
          have hsz := hbw.size
          have hcells : ∀ (j : Nat) u, [Value.slice AX x.length cx][j]? = some u → wr.cell? ((⟨g, 0, Option.none⟩ : Addr).add j) = some u := fun j u hu => by
            rw [Lib.add_plain, Nat.zero_add, (HCG.out.below hbw HCG.out.lt).cell j]
            exact hu
          clear hown hbw
          go_wp2_with (at_builtin; refine wpList_append_own _ rfl _ _ _ rfl wo.heap.size 31 i0 (.slice Option.none 0 0) 1 24 Tryz.underlying24 hi0 hz0 hz1 hz2 rfl (by decide) _ _ _ rfl HO.out ⟨g, 0, Option.none⟩ 1 1 [.slice AX x.length cx] rfl rfl hcells (by intro u hu; rw [List.mem_singleton.1 hu]; rfl) (by unfold maxLen; omega) (by omega) hsz ?_; intro v3 w3 hown3 hg3 _; obtain ⟨g3, c3, rfl⟩ := ownsRow_succ hown3)
          have hb3 := HB.out.grown hg3 hsz (fun k hk => (HO.out.lt k hk).1)
          go_roundw
          case rel => exact ⟨_, _, .inr (.inr ⟨by go_num, rfl, hown3⟩), hb3⟩
          case measure => simp [intOf]
        · have HB := Lib.hid hbw
          have HO := Lib.hid hown
          clear hown hbw
          go_wp2_with fail
          go_ret
          refine ⟨⟨_, _, rfl, ⟨fun k y hy => ?_⟩⟩, HB.out⟩
          match k, hy with
          | 0, hy =>
            cases hy
            obtain ⟨A', c', e, h1, h2, hr⟩ := Row.of_own HO.out
            cases e
            obtain ⟨ad, e1, h3, h4⟩ := hr.get 0 _ rfl
            exact ⟨ad, _, e1, h3, h4, HX.out.lift HB.out⟩
          | k + 1, hy => simp at hy

end Go.Proofs.YteenfcmnmenigaaGreatDoor

namespace Go.Proofs.YteenfcmnmenigaaGreatDoor
open Go.RowKit Go.Lib

set_option maxRecDepth 100000 in
set_option maxHeartbeats 2000000 in
theorem open_one (pv xv : Value) (g : Nat) (p x : List Int) (w : World) (hp : IsRow w w.heap.size pv p) (hg : Cells w g 31 [xv]) (hx : IsRow w w.heap.size xv x) :
    Calls Tryz.prog 135 #[pv, .slice Option.none 0 0, .slice (some ⟨g, 0, Option.none⟩) 1 1] w fun e w' => e = .returned (.int .i64 (chkAll p [x])) ∧ Below w.heap.size w w' := by
  have HPC := Lib.hid (primeCheck_any pv p w.heap.size w hp)
  have HP := Lib.hid hp
  obtain ⟨AP, cp, rfl⟩ := hp.shape
  by_cases hpe : primeErr p = 0
  · rw [hpe] at HPC
    have hba : Below w.heap.size w (w.alloc (.cells #[.slice Option.none 0 0, .slice (some ⟨g, 0, Option.none⟩) 1 1] 24)) := (Below.refl _ _).alloc (Nat.le_refl _) _
    have HC := Lib.hid (concat_one w.heap.size g xv x _ (Cells.new w 24 #[.slice Option.none 0 0, .slice (some ⟨g, 0, Option.none⟩) 1 1]) (hg.alloc _) (hx.lift hba))
    have HBA := Lib.hid hba
    clear hp hg hx hba hpe
    go_enter Tryz.func135, Tryz.ntmps135
    go_wp2_with fail
    refine HPC.out.mono ?_
    rintro e w1 ⟨rfl, rfl⟩
    go_wp2_with fail
    refine HC.out.mono ?_
    rintro e w2 ⟨⟨A, c, rfl, hr⟩, hb2⟩
    have HB2 := Lib.hid (HBA.out.trans (hb2.mono HBA.out.size))
    have HCA := Lib.hid (checkAll_any _ p A c w2.heap.size [x] w2 (HP.out.lift HB2.out) hr (by simp))
    rw [List.length_cons, List.length_nil] at HCA
    clear hb2 hr
    go_wp2_with fail
    refine HCA.out.mono ?_
    rintro e w3 ⟨rfl, rfl⟩
    go_wp2_with fail
    go_ret
    exact ⟨rfl, HB2.out⟩
  · have hE : chkAll p [x] = primeErr p := by unfold chkAll; rw [if_pos hpe]
    rw [hE]
    clear hp hg hx hE
    generalize primeErr p = E at *
    go_enter Tryz.func135, Tryz.ntmps135
    go_wp2_with fail
    refine HPC.out.mono ?_
    rintro e w1 ⟨rfl, rfl⟩
    go_wp2_with fail
    go_ret
    exact ⟨rfl, Below.refl _ _⟩

theorem made_int (n : Nat) : (madeCells #[Value.int .i64 0] (n * 1)).toList = is (List.replicate n 0) := by
  apply List.ext_getElem?
  intro i
  unfold is
  simp [madeCells, List.getElem?_replicate]
  by_cases h : i < n
  · simp [h, Nat.mod_one]
  · simp [h]

set_option maxRecDepth 100000 in
set_option maxHeartbeats 2000000 in
theorem ivUnit (pv : Value) (p : List Int) (n : Nat) (w : World) (hp : IsRow w w.heap.size pv p) (hn : p.length = n + 1) (hn2 : n ≤ 1000) :
    Calls Tryz.prog 137 #[pv] w fun e w' => (∃ v, e = .returned v ∧ IsRow w' w'.heap.size v (uni n)) ∧ Below w.heap.size w w' := by
  obtain ⟨i0, hi0, hz0, hz1, hz2⟩ := info_parts Tryz.info_int
  obtain ⟨AP, cp, rfl⟩ := hp.shape
  rw [hn]
  clear hp hn
  go_enter Tryz.func137, Tryz.ntmps137
  go_wp2_with (at_make; refine wpList_make_full _ rfl _ _ _ rfl w.heap.size 3 i0 _ 1 Tryz.underlying31 hi0 hz0 hz1 .i64 .i64 _ _ (n + 1) rfl rfl (by omega) (by omega) (by rw [hz2]; omega) (by unfold maxLen; omega) (Nat.le_refl _) ?_; intro w1 hown hg1; have hc1 : Cells w1 w.heap.size 3 (is (List.replicate (n + 1) 0)) := (Cells.of_full (by rw [← made_int]; exact hown)); have q0 := hc1.cell 0; have f0 := hc1.free 0; rw [List.replicate_succ] at q0; simp only [is, List.map_cons, List.getElem?_cons_zero] at q0)
  go_ret
  have hb1 : Below w.heap.size w w1 := (Below.refl _ _).grown hg1 (Nat.le_refl _) (by simp)
  refine ⟨⟨_, rfl, ?_⟩, hb1.setCell (Nat.le_refl _) _⟩
  have h2 := hc1.set 0 (.int .i64 1)
  have e : (is (List.replicate (n + 1) 0)).set 0 (.int .i64 1) = is (uni n) := by unfold is uni; rw [List.replicate_succ]; rfl
  rw [e] at h2
  refine ⟨some ⟨w.heap.size, 0, Option.none⟩, n + 1, by rw [uni_len]; rfl, by rw [uni_len]; exact Nat.le_refl _, by unfold maxLen; omega, ?_⟩
  exact (Cells.row h2 h2.lt (by rw [is_length]))

end Go.Proofs.YteenfcmnmenigaaGreatDoor
