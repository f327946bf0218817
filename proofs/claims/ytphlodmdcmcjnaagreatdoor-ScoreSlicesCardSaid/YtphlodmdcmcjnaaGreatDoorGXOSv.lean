/- schismalaw48.at. (Printed by gen_at48.py out of score.sounding's walk.) schismalaw48.same of equal lists. -/
import Derived.Test.YtphlodmdcmcjnaaGreatDoorGXDMSv
import Derived.Test.YtphlodmdcmcjnaaGreatDoorGXFSv
import Derived.Test.YtphlodmdcmcjnaaGreatDoorGXESv
namespace Go.Proofs.YtphlodmdcmcjnaaGreatDoor
open Go.RowKit Go.Lib

theorem all_short {vs : List Vc} {dss : List (List Nat)} (hsh : ShortV vs dss) {l : List Nat} (hl : l ∈ dss.map strt) : 0 < l.length ∧ l.length ≤ 1001 := by
  obtain ⟨ds, hds, rfl⟩ := List.mem_map.1 hl
  rw [strt_len]
  obtain ⟨k, hk, rfl⟩ := List.getElem_of_mem hds
  have hk2 : k < vs.length := by rw [hsh.tv.len]; exact hk
  obtain ⟨ds2, e2, ht⟩ := hsh.tv.at_ hk2
  rw [List.getElem?_eq_getElem hk] at e2
  injection e2 with e2
  have h1 := hsh.evs _ (List.getElem_mem hk2)
  have h2 := ht.len
  rw [← e2] at h2
  omega

set_option maxRecDepth 100000 in
set_option maxHeartbeats 8000000 in
theorem at48_any (pv vv : Value) (s : Sc) (dss : List (List Nat)) (tn td : List UInt8) (c1 c2 : Nat → Int) (w : World) (hS : Std w) (hsc : ScV w w.heap.size pv vv s) (hsh : ShortV s.voices dss)
    (hr1 : ∀ a, c1 a = -1 ∨ c1 a = 0 ∨ c1 a = 1)
    (HC1 : Hid (∀ a W, a ≤ 1000000 → Std W → Calls Tryz.prog 23 #[.agg #[.string ⟨(t12n a).toArray⟩, .string ⟨(t12d a).toArray⟩], .agg #[.string ⟨tn.toArray⟩, .string ⟨td.toArray⟩]] W fun e w' => e = .returned (.int .i64 (c1 a)) ∧ Below W.heap.size W w'))
    (HC2 : Hid (∀ a W, a ≤ 1000000 → Std W → Calls Tryz.prog 23 #[.agg #[.string ⟨tn.toArray⟩, .string ⟨td.toArray⟩], .agg #[.string ⟨(t12n a).toArray⟩, .string ⟨(t12d a).toArray⟩]] W fun e w' => e = .returned (.int .i64 (c2 a)) ∧ Below W.heap.size W w')) :
    Calls Tryz.prog 25 #[.agg #[pv, vv], .agg #[.string ⟨tn.toArray⟩, .string ⟨td.toArray⟩]] w fun e w' => (∃ v, e = .returned v ∧ SnO w' w.heap.size v (snd (fun a => decide (c1 a ≤ 0)) (fun b => decide (c2 b < 0)) (dss.map strt))) ∧ Below w.heap.size w w' := by
  obtain ⟨all, hall⟩ : ∃ all, all = dss.map strt := ⟨_, rfl⟩
  have hl : all.length ≤ 1000 := by rw [hall, List.length_map, ← hsh.tv.len]; exact hsh.vcs
  have hll : ∀ l ∈ all, 0 < l.length ∧ l.length ≤ 1001 := fun l hl => by rw [hall] at hl; exact all_short hsh hl
  have hb : ∀ l ∈ all, ∀ a ∈ l, a ≤ 1000000 := fun l hl a ha => by
    rw [hall] at hl
    obtain ⟨ds, hds, rfl⟩ := List.mem_map.1 hl
    exact Nat.le_trans (strt_le ha) (hsh.sum ds hds)
  have HVS : Box (∀ k (hk : k < all.length), ∃ (hv : k < s.voices.length) (ds : List Nat), all[k]'hk = strt ds ∧ TimesOf (s.voices[k]'hv).evs ds ∧ ds.sum ≤ 1000000 ∧ (s.voices[k]'hv).evs.length ≤ 1000) := ⟨fun k hk => by
    subst hall
    rw [List.length_map] at hk
    have hv : k < s.voices.length := by rw [hsh.tv.len]; exact hk
    obtain ⟨ds, e, ht⟩ := hsh.tv.at_ hv
    rw [List.getElem?_eq_getElem hk] at e
    injection e with e
    exact ⟨hv, ds, by rw [List.getElem_map, e], ht, hsh.sum ds (by rw [← e]; exact List.getElem_mem hk), hsh.evs _ (List.getElem_mem hv)⟩⟩
  have hvl : s.voices.length = all.length := by rw [hall, List.length_map, hsh.tv.len]
  rw [← hall]
  clear hall hsh
  obtain ⟨i0, hi0, hz0, hz1, hz2⟩ := info_parts Tryz.info_sound
  have HS := Lib.hid hS
  have HR1 := Lib.hid hr1
  obtain ⟨hpq, AV, cV, rfl, _, hcm, hvt⟩ := hsc
  obtain ⟨AP, cp, rfl, _⟩ := hpq.shape
  rw [hvl]
  have HVT := Lib.hid hvt
  unfold maxLen at hcm
  have HLL : Box (∀ l ∈ all, 0 < l.length ∧ l.length ≤ 1001) := ⟨hll⟩
  have HBD : Box (∀ l ∈ all, ∀ a ∈ l, a ≤ 1000000) := ⟨hb⟩
  have HBA := Lib.hid (((Below.refl w.heap.size w).alloc (Nat.le_refl _) (.cells #[.slice AP s.primes.length cp, .slice AV all.length cV] 31)).alloc (by simp) (.cells #[.string ⟨tn.toArray⟩, .string ⟨td.toArray⟩] 55))
  have HSB := Lib.hid ((Cells.new w 31 #[.slice AP s.primes.length cp, .slice AV all.length cV]).alloc (.cells #[.string ⟨tn.toArray⟩, .string ⟨td.toArray⟩] 55))
  have HN : Hid (Cells ((w.alloc (.cells #[.slice AP s.primes.length cp, .slice AV all.length cV] 31)).alloc (.cells #[.string ⟨tn.toArray⟩, .string ⟨td.toArray⟩] 55)) (w.heap.size + 1) 55 [.string ⟨tn.toArray⟩, .string ⟨td.toArray⟩]) := Lib.hid (by
    have h := Cells.new (w.alloc (.cells #[.slice AP s.primes.length cp, .slice AV all.length cV] 31)) 55 #[.string ⟨tn.toArray⟩, .string ⟨td.toArray⟩]
    rw [World.size_alloc] at h
    exact h)
  have HSN : Box (snd (fun a => decide (c1 a ≤ 0)) (fun b => decide (c2 b < 0)) all = sndAll (fun a => decide (c1 a ≤ 0)) (fun b => decide (c2 b < 0)) all all.length) := ⟨rfl⟩
  have HSL : Box (∀ i, i ≤ all.length → (sndAll (fun a => decide (c1 a ≤ 0)) (fun b => decide (c2 b < 0)) all i).length ≤ i * 1000) := ⟨sndAll_len _ _ all 1000 (fun l hl => (hll l hl).2)⟩
  have HSS : Box (∀ i, sndAll (fun a => decide (c1 a ≤ 0)) (fun b => decide (c2 b < 0)) all (i + 1) = sndAll (fun a => decide (c1 a ≤ 0)) (fun b => decide (c2 b < 0)) all i ++ sndTo (fun a => decide (c1 a ≤ 0)) (fun b => decide (c2 b < 0)) i (all[i]?.getD []) ((all[i]?.getD []).length - 1)) := ⟨fun i => rfl⟩
  have HST : Box (∀ i l k, sndTo (fun a => decide (c1 a ≤ 0)) (fun b => decide (c2 b < 0)) i l (k + 1) = sndTo (fun a => decide (c1 a ≤ 0)) (fun b => decide (c2 b < 0)) i l k ++ (if decide (c1 (l[k]?.getD 0) ≤ 0) && decide (c2 (l[k + 1]?.getD 0) < 0) then [(i, k)] else [])) := ⟨fun i l k => rfl⟩
  have HSTL : Box (∀ i l k, (sndTo (fun a => decide (c1 a ≤ 0)) (fun b => decide (c2 b < 0)) i l k).length ≤ k) := ⟨fun i l k => sndTo_len _ _ i l k⟩
  have HST0 : Box (∀ i l, sndTo (fun a => decide (c1 a ≤ 0)) (fun b => decide (c2 b < 0)) i l 0 = []) := ⟨fun i l => rfl⟩
  have HSA0 : Box (sndAll (fun a => decide (c1 a ≤ 0)) (fun b => decide (c2 b < 0)) all 0 = []) := ⟨rfl⟩
  generalize snd (fun a => decide (c1 a ≤ 0)) (fun b => decide (c2 b < 0)) all = out at *
  generalize sndAll (fun a => decide (c1 a ≤ 0)) (fun b => decide (c2 b < 0)) all = sa at *
  generalize sndTo (fun a => decide (c1 a ≤ 0)) (fun b => decide (c2 b < 0)) = sto at *
  clear hS hpq hvt hll hb hr1
  go_enter Tryz.func25, Tryz.ntmps25
  go_wp2_with fail
  go_loopw [5, 6] (fun o i wr => ∃ k : Nat, k ≤ all.length ∧ i = .int .i64 k ∧ SnO wr (w.heap.size + 2) o (sa k) ∧ Cells wr w.heap.size 31 [.slice AP s.primes.length cp, .slice AV all.length cV] ∧  Cells wr (w.heap.size + 1) 55 [.string ⟨tn.toArray⟩, .string ⟨td.toArray⟩] ∧ Below w.heap.size w wr) (fun _ i _ => all.length - (intOf i).toNat)
  case atStart => exact ⟨0, Nat.zero_le _, rfl, by rw [HSA0.out]; exact ⟨[], LO.nil _ _⟩, HSB.out, HN.out, HBA.out⟩
  case round =>
    clear HN HBA HSA0 HSB
    obtain ⟨k, hk, rfl, ht, hsb, hc, hbw⟩ := hrel
    obtain ⟨v0, v1⟩ := cel2 hsb
    by_cases hlt : k < all.length
    · obtain ⟨hkv, ds, hds, hto, hsm, hel⟩ := HVS.out k hlt
      obtain ⟨b1, o1, A0, C0, rfl, _, _, p0, p1, _, _, hev⟩ := (VcsT.lift HVT.out hbw).at_ hkv
      have hkvi : (k : Int) < (all.length : Int) := by omega
      generalize s.voices[k]'hkv = vc at *
      obtain ⟨nm, es⟩ := vc
      dsimp only at *
      have HST8 := Lib.hid (starts48_any nm A0 C0 es ds wr (HS.out.below hbw (Nat.le_refl _)) hev hto hsm (by omega))
      rw [← hds] at HST8
      clear hev hto hds
      have hlg : all[k]?.getD [] = all[k] := by rw [List.getElem?_eq_getElem hlt]; rfl
      have HNX : Box (sa (k + 1) = sa k ++ sto k (all[k]'hlt) ((all[k]'hlt).length - 1)) := ⟨by rw [HSS.out, hlg]⟩
      obtain ⟨hl0, hl1⟩ := HLL.out _ (List.getElem_mem hlt)
      have HBL : Box (∀ a ∈ all[k]'hlt, a ≤ 1000000) := ⟨HBD.out _ (List.getElem_mem hlt)⟩
      have hsk := HSL.out k hk
      generalize all[k]'hlt = l at *
      go_wp2_with fail
      refine HST8.out.mono ?_
      rintro e W1 ⟨⟨vt, rfl, htO⟩, hb8⟩
      obtain ⟨A1, C1, rfl, _, hCm, htm⟩ := htO.shape
      have HTM := Lib.hid htm
      have HT : Hid (SnO W1 (w.heap.size + 2) _ (sa k ++ sto k l 0)) := Lib.hid (by rw [HST0.out, List.append_nil]; exact ht.below hb8)
      have HC := Lib.hid (hc.below hb8 hc.lt)
      have HSB := Lib.hid (hsb.below hb8 hsb.lt)
      have HBW := Lib.hid (hbw.trans (hb8.mono hbw.size))
      have hws := HBW.out.size
      clear ht hc hsb hbw hlg htm htO hb8 HST8 p0 p1 v0 v1
      go_wp2_with fail
      go_loopw [5, 8] (fun o i wr => ∃ j : Nat, j ≤ l.length - 1 ∧ i = .int .i64 j ∧ SnO wr (w.heap.size + 2) o (sa k ++ sto k l j) ∧ Cells wr w.heap.size 31 [.slice AP s.primes.length cp, .slice (some ⟨b1, o1, Option.none⟩) all.length cV] ∧  Cells wr (w.heap.size + 1) 55 [.string ⟨tn.toArray⟩, .string ⟨td.toArray⟩] ∧ KpT [146] W1.heap.size W1 wr ∧ Below w.heap.size w wr) (fun _ i _ => (l.length - 1) - (intOf i).toNat)
      case atStart => exact ⟨0, Nat.zero_le _, rfl, HT.out, HSB.out, HC.out, KpT.refl _ _ _, HBW.out⟩
      case round =>
        clear HT HC HSB
        obtain ⟨j, hj, rfl, ht, hsb, hc, hkp, hbx⟩ := hrel
        have hwj : IntKind.i64.wrap ((j : Int) + 1) = (j : Int) + 1 := IntWalk.i64_in _ (by omega)
        by_cases hjl : j < l.length - 1
        · obtain ⟨a, ha⟩ : ∃ a, l[j]? = some a := ⟨_, List.getElem?_eq_getElem (by omega)⟩
          obtain ⟨b, hb⟩ : ∃ b, l[j + 1]? = some b := ⟨_, List.getElem?_eq_getElem (by omega)⟩
          have hla := HBL.out a (List.mem_of_getElem? ha)
          have hlb := HBL.out b (List.mem_of_getElem? hb)
          have HTX : Hid (TmT wr W1.heap.size A1 l) := Lib.hid (LT.keep HTM.out hkp (by decide) (Nat.le_refl _) fun _ _ _ h => h)
          obtain ⟨b9, o9, rfl, hb9, x0, x1⟩ := TmT.at_ HTX.out ha
          obtain ⟨b8, o8, e8, _, y0, y1⟩ := TmT.at_ HTX.out hb
          injection e8 with e8
          injection e8 with e8 e7 _
          subst e8 e7
          obtain ⟨z0, z1⟩ := cel2 hc
          have HST1 : Box (sto k l (j + 1) = sto k l j ++ (if decide (c1 a ≤ 0) && decide (c2 b < 0) then [(k, j)] else [])) := ⟨by rw [HST.out, ha, hb]; rfl⟩
          have hsl := HSTL.out k l j
          have HA1 := Lib.hid (fun W h => HC1.out a W hla h)
          have HB1 := Lib.hid (fun W h => HC2.out b W hlb h)
          have HBX := Lib.hid hbx
          have HKP := Lib.hid hkp
          have HSW := Lib.hid (HS.out.below HBX.out (Nat.le_refl _))
          have hw2 : IntKind.i64.wrap ((j : Int) + 1) = (j : Int) + 1 := IntWalk.i64_in _ (by omega)
          have hi1 : (0 : Int) ≤ (j : Int) := by omega
          have hi2 : (j : Int) < (l.length : Int) := by omega
          have hi3 : (0 : Int) ≤ (j : Int) + 1 := by omega
          have hi4 : (j : Int) + 1 < (l.length : Int) := by omega
          have HCR := Lib.hid hc
          have HSR := Lib.hid hsb
          have hcs := hsb.lt
          have hji : (j : Int) + 1 < (l.length : Int) := by omega
          have HT1 := Lib.hid ht
          have hwx := hkp.size
          have hcl := hc.lt
          have hB : Below wr.heap.size wr wr.drew := below_to_drew (Below.refl _ _)
          have hc1c := HR1.out a
          clear ha hb hla hlb hbx hkp ht hc hsb hb9
          generalize c1 a = ca at *
          generalize c2 b = cb at *
          by_cases h1 : ca ≤ 0
          · by_cases h2 : cb < 0
            · have HNS : Box (sto k l (j + 1) = sto k l j ++ [(k, j)]) := ⟨by rw [HST1.out, decide_eq_true h1, decide_eq_true h2]; rfl⟩
              clear HST1
              go_wp2_with fail
              go_region_held3 (fun w' => w'.cell? ⟨b9, o9 + j * 2, Option.none⟩ = some (.string ⟨(t12n a).toArray⟩) ∧ w'.cell? ⟨b9, o9 + j * 2 + 1, Option.none⟩ = some (.string ⟨(t12d a).toArray⟩) ∧ w'.cell? ⟨b9, o9 + (j + 1) * 2, Option.none⟩ = some (.string ⟨(t12n b).toArray⟩) ∧ w'.cell? ⟨b9, o9 + (j + 1) * 2 + 1, Option.none⟩ = some (.string ⟨(t12d b).toArray⟩) ∧ w'.cell? ⟨w.heap.size + 1, 0, Option.none⟩ = some (.string ⟨tn.toArray⟩) ∧ w'.cell? ⟨w.heap.size + 1, 1, Option.none⟩ = some (.string ⟨td.toArray⟩))
          (first | exact ⟨keep_cell x0 hB, keep_cell x1 hB, keep_cell y0 hB, keep_cell y1 hB, keep_cell z0 hB, keep_cell z1 hB⟩ | go_keep)
          ((first
            | (go_at_call 23; (with_reducible refine (HA1.out _ (HSW.out.below hB (Nat.le_refl _))).mono ?_); rintro e wA ⟨rfl, hbk⟩; replace hB := hB.trans (hbk.mono hB.size); clear hbk)
            | (go_at_call 23; (with_reducible refine (HB1.out _ (HSW.out.below hB (Nat.le_refl _))).mono ?_); rintro e wA ⟨rfl, hbk⟩; replace hB := hB.trans (hbk.mono hB.size); clear hbk)))
              have HBN := Lib.hid (HBX.out.trans (hB.mono HBX.out.size))
              have HCN := Lib.hid (HCR.out.below hB hcl)
              have HSN2 := Lib.hid (HSR.out.below hB hcs)
              have HBN1 := Lib.hid (HKP.out.trans (KpT.of_below (hB.mono hwx)))
              obtain ⟨css, hlo⟩ := HT1.out.below hB
              have HLO := Lib.hid hlo
              have HO := Lib.hid hlo.own
              have HLEN : Box ((sa k ++ sto k l j).length ≤ 2001000) := ⟨by rw [List.length_append]; omega⟩
              have hlen := HLEN.out
              have hbw0 : w.heap.size + 2 ≤ wA.heap.size := HCN.out.lt
              have hwA : W1.heap.size ≤ wA.heap.size := HBN1.out.size
              obtain ⟨st, hst⟩ : ∃ st, sa k ++ sto k l j = st := ⟨_, rfl⟩
              have HST9 : Box (sa k ++ sto k l j = st) := ⟨hst⟩
              rw [hst] at HLO HO HLEN hlen
              clear hB hlo HT1 hst
              go_wp2_with (at_builtin; refine wpList_append_own _ rfl _ _ _ rfl (w.heap.size + 2) 146 i0 (.agg #[.int .i64 0, .int .i64 0]) 2 16 Tryz.underlying57 hi0 hz0 hz1 hz2 rfl (by decide) _ _ _ rfl (HO.out.alloc _) ⟨wA.heap.size, 0, Option.none⟩ 1 1 [.int .i64 k, .int .i64 j] rfl rfl (World.news_of_block (cs := #[.int .i64 k, .int .i64 j]) (t := 146) (fr := (0, 0)) (heap_alloc_new wA _)) (by simp [Value.oneCell']) (by unfold maxLen; omega) (by omega) (by simp; omega) ?_; intro v9 w9 hown9 hg9 _)
              have HTN : Hid (SnO w9 (w.heap.size + 2) v9 (st ++ [(k, j)])) := Lib.hid ⟨css ++ [[.int .i64 k, .int .i64 j]], HLO.out.push (fun _ _ _ h => h) (show SnQ (k, j) [.int .i64 k, .int .i64 j] from rfl) rfl hown9⟩
              have HC9 := Lib.hid ((HCN.out.alloc (.cells #[.int .i64 k, .int .i64 j] 146)).grown hg9 (fun e => by have := (HO.out.lt _ e.symm).1; omega))
              have HS9 := Lib.hid ((HSN2.out.alloc (.cells #[.int .i64 k, .int .i64 j] 146)).grown hg9 (fun e => by have := (HO.out.lt _ e.symm).1; omega))
              have HK9 := Lib.hid ((HBN1.out.alloc hwA (.cells #[.int .i64 k, .int .i64 j] 146)).grown (HO.out.alloc _) (by simp) hg9)
              have HB9 := Lib.hid ((HBN.out.alloc (by omega) (.cells #[.int .i64 k, .int .i64 j] 146)).grown hg9 (by simp; omega) (fun i hi => by have := (HO.out.lt i hi).1; omega))
              go_roundw
              case rel => exact ⟨j + 1, by omega, by go_num, by rw [HNS.out, ← List.append_assoc, HST9.out]; exact HTN.out, HS9.out, HC9.out, HK9.out, HB9.out⟩
              case measure => simp [intOf]; omega
            · have HNS : Box (sto k l (j + 1) = sto k l j) := ⟨by rw [HST1.out, decide_eq_false h2, Bool.and_false]; exact List.append_nil _⟩
              clear HST1
              go_wp2_with fail
              go_region_held3 (fun w' => w'.cell? ⟨b9, o9 + j * 2, Option.none⟩ = some (.string ⟨(t12n a).toArray⟩) ∧ w'.cell? ⟨b9, o9 + j * 2 + 1, Option.none⟩ = some (.string ⟨(t12d a).toArray⟩) ∧ w'.cell? ⟨b9, o9 + (j + 1) * 2, Option.none⟩ = some (.string ⟨(t12n b).toArray⟩) ∧ w'.cell? ⟨b9, o9 + (j + 1) * 2 + 1, Option.none⟩ = some (.string ⟨(t12d b).toArray⟩) ∧ w'.cell? ⟨w.heap.size + 1, 0, Option.none⟩ = some (.string ⟨tn.toArray⟩) ∧ w'.cell? ⟨w.heap.size + 1, 1, Option.none⟩ = some (.string ⟨td.toArray⟩))
          (first | exact ⟨keep_cell x0 hB, keep_cell x1 hB, keep_cell y0 hB, keep_cell y1 hB, keep_cell z0 hB, keep_cell z1 hB⟩ | go_keep)
          ((first
            | (go_at_call 23; (with_reducible refine (HA1.out _ (HSW.out.below hB (Nat.le_refl _))).mono ?_); rintro e wA ⟨rfl, hbk⟩; replace hB := hB.trans (hbk.mono hB.size); clear hbk)
            | (go_at_call 23; (with_reducible refine (HB1.out _ (HSW.out.below hB (Nat.le_refl _))).mono ?_); rintro e wA ⟨rfl, hbk⟩; replace hB := hB.trans (hbk.mono hB.size); clear hbk)))
              have HBN := Lib.hid (HBX.out.trans (hB.mono HBX.out.size))
              have HCN := Lib.hid (HCR.out.below hB hcl)
              have HSN2 := Lib.hid (HSR.out.below hB hcs)
              have HBN1 := Lib.hid (HKP.out.trans (KpT.of_below (hB.mono hwx)))
              have HTN := Lib.hid (HT1.out.below hB)
              clear hB
              go_wp2_with fail
              go_roundw
              case rel => exact ⟨j + 1, by omega, by go_num, by rw [HNS.out]; exact HTN.out, HSN2.out, HCN.out, HBN1.out, HBN.out⟩
              case measure => simp [intOf]; omega
          · have HNS : Box (sto k l (j + 1) = sto k l j) := ⟨by rw [HST1.out, decide_eq_false h1, Bool.false_and]; exact List.append_nil _⟩
            obtain rfl : ca = 1 := by omega
            clear h1 hc1c
            clear HST1
            go_wp2_with fail
            first
              | (go_region_law (first
                  | (go_simp; go_at_call 23; (with_reducible refine (HA1.out _ (HSW.out.below hB (Nat.le_refl _))).mono ?_); rintro e wA ⟨rfl, hbk⟩; replace hB := hB.trans (hbk.mono hB.size); clear hbk)
                  | fail))
              | fail
            all_goals
              have HBN := Lib.hid (HBX.out.trans (hB.mono HBX.out.size))
              have HCN := Lib.hid (HCR.out.below hB hcl)
              have HSN2 := Lib.hid (HSR.out.below hB hcs)
              have HBN1 := Lib.hid (HKP.out.trans (KpT.of_below (hB.mono hwx)))
              have HTN := Lib.hid (HT1.out.below hB)
              clear hB
              go_wp2_with fail
              go_roundw
              case rel => exact ⟨j + 1, by omega, by go_num, by rw [HNS.out]; exact HTN.out, HSN2.out, HCN.out, HBN1.out, HBN.out⟩
              case measure => simp [intOf]; omega
        · have hjx : ¬ ((j : Int) + 1 < (l.length : Int)) := by omega
          have hje : j = l.length - 1 := by omega
          rw [hje, ← HNX.out] at ht
          clear hje
          go_wp2_with fail
          go_roundw
          case rel => exact ⟨k + 1, by omega, by go_num, ht, hsb, hc, hbx⟩
          case measure => simp [intOf]; omega
    · obtain rfl : k = all.length := by omega
      rw [← HSN.out] at ht
      obtain ⟨A9, c9, rfl, _⟩ := ht.shape
      go_wp2_with fail
      go_ret
      exact ⟨⟨_, rfl, ht.rebase (Nat.le_add_right _ 2)⟩, hbw⟩

end Go.Proofs.YtphlodmdcmcjnaaGreatDoor

namespace Go.Proofs.YtphlodmdcmcjnaaGreatDoor
open Go.RowKit Go.Lib

theorem snd_neq (a b : Int) (w : World) : (binOp .neq 146 (.agg #[.int .i64 a, .int .i64 b]) (.agg #[.int .i64 a, .int .i64 b])).run Tryz.prog w = .ok (.bool false) w := by
  have hS : Tryz.prog.underlying 146 = some (.struct (Tryz.prog.fieldsOf 146)) := by kernel_rfl
  have hp : Tryz.prog.stoodInHeld 146 = false := by kernel_rfl
  rw [run_neq_struct, show (10000 : Nat) = 9999 + 1 from rfl, run_equalIn_agg w 9999 146 _ _ hS hp]
  simp only [Program.fieldsOf, Tryz.underlying146]
  have u := Tryz.underlying3
  go_simp
theorem SnT.lift {w w' : World} {A : Option Addr} {l : List (Nat × Nat)} (h : SnT w w.heap.size A l) (hb : Below w.heap.size w w') : SnT w' w'.heap.size A l := LT.keep h (E := []) (KpT.of_below hb) (by simp) hb.size fun _ _ _ h => h
theorem SnT.at_ {w : World} {B : Nat} {A : Option Addr} {l : List (Nat × Nat)} (h : SnT w B A l) {k : Nat} (hk : k < l.length) : ∃ b o, A = some ⟨b, o, Option.none⟩ ∧ b < B ∧ w.cell? ⟨b, o + k * 2, Option.none⟩ = some (.int .i64 (l[k]'hk).1) ∧ w.cell? ⟨b, o + k * 2 + 1, Option.none⟩ = some (.int .i64 (l[k]'hk).2) := by
  obtain ⟨b, o, cs, e, h1, h2, h3, h4, rfl⟩ := h.get k _ (List.getElem?_eq_getElem hk)
  exact ⟨b, o, e, h1, h4 0 (by decide), h4 1 (by decide)⟩

set_option maxRecDepth 100000 in
set_option maxHeartbeats 2000000 in
theorem same48_eq (A B : Option Addr) (c d : Nat) (x : List (Nat × Nat)) (w : World) (hx : SnT w w.heap.size A x) (hy : SnT w w.heap.size B x) (hl : x.length ≤ 10000000) :
    Calls Tryz.prog 24 #[.slice A x.length c, .slice B x.length d] w fun e w' => e = .returned (.bool true) ∧ Below w.heap.size w w' := by
  have HX := Lib.hid hx
  have HY := Lib.hid hy
  clear hx hy
  go_enter Tryz.func24, Tryz.ntmps24
  go_wp2_with fail
  go_loopw [5] (fun i wr => ∃ k : Nat, k ≤ x.length ∧ i = .int .i64 k ∧ Below w.heap.size w wr) (fun i _ => x.length - (intOf i).toNat)
  case atStart => exact ⟨0, Nat.zero_le _, rfl, Below.refl _ _⟩
  case round =>
    obtain ⟨k, hk, rfl, hbw⟩ := hrel
    by_cases hlt : k < x.length
    · obtain ⟨b1, o1, rfl, _, p0, p1⟩ := (SnT.lift HX.out hbw).at_ hlt
      obtain ⟨b2, o2, rfl, _, q0, q1⟩ := (SnT.lift HY.out hbw).at_ hlt
      have hki : (k : Int) < (x.length : Int) := by omega
      have hk0 : (0 : Int) ≤ (k : Int) := by omega
      generalize x[k]'hlt = u at *
      obtain ⟨u1, u2⟩ := u
      dsimp only at *
      have hne : ∀ W, (binOp .neq 146 (.agg #[.int .i64 u1, .int .i64 u2]) (.agg #[.int .i64 u1, .int .i64 u2])).run Tryz.prog W = .ok (.bool false) W := fun W => snd_neq u1 u2 W
      go_wp2_with fail
      go_region
      go_wp2_with fail
      go_roundw
      case rel => exact ⟨k + 1, by omega, by go_num, below_to_drew hbw⟩
      case measure => simp [intOf]; omega
    · obtain rfl : k = x.length := by omega
      go_wp2_with fail
      go_ret
      exact ⟨rfl, hbw⟩

end Go.Proofs.YtphlodmdcmcjnaaGreatDoor
