/- schismalaw48.equal of a score and its like (printed by gen_eq48.py). -/
import Derived.Test.YtphlodmdcmcjnaaGreatDoorGXECv
import Derived.Test.YtphlodmdcmcjnaaGreatDoorGXAMCv
import Derived.Test.YtphlodmdcmcjnaaGreatDoorGXRCv
import Derived.Deep.RegionHeld3
namespace Go.Proofs.YtphlodmdcmcjnaaGreatDoor
open Go.RowKit Go.Lib

theorem two_cells (w : World) (T : TypeId) (xs ys : Array Value) : Cells ((w.alloc (.cells xs T)).alloc (.cells ys T)).drew w.heap.size T xs.toList ∧ Cells ((w.alloc (.cells xs T)).alloc (.cells ys T)).drew (w.heap.size + 1) T ys.toList ∧ Below w.heap.size w ((w.alloc (.cells xs T)).alloc (.cells ys T)).drew := by
  have h := Cells.new (w.alloc (.cells xs T)) T ys
  rw [World.size_alloc] at h
  exact ⟨((Cells.new w T xs).alloc _).drew, h.drew, below_to_drew (((Below.refl _ _).alloc (Nat.le_refl _) _).alloc (by simp) _)⟩
theorem place_eql (w : World) : (binOp .eql 37 (.agg #[.int .i64 0, .int .i64 0]) (.agg #[.int .i64 0, .int .i64 0])).run Tryz.prog w = .ok (.bool true) w := by
  have hS : Tryz.prog.underlying 37 = some (.struct (Tryz.prog.fieldsOf 37)) := by kernel_rfl
  have hp : Tryz.prog.stoodInHeld 37 = false := by kernel_rfl
  rw [run_eql_struct, show (10000 : Nat) = 9999 + 1 from rfl, run_equalIn_agg w 9999 37 _ _ hS hp]
  simp only [Program.fieldsOf, Tryz.underlying37]
  have u := Tryz.underlying3
  go_simp
theorem sameB_self (x : List Int) : sameB x x = true := by rw [sameB]; simp

set_option maxRecDepth 100000 in
set_option maxHeartbeats 8000000 in
theorem equal48_same (pv1 vv1 pv2 vv2 : Value) (s : Sc) (w : World) (h1 : ScV w w.heap.size pv1 vv1 s) (h2 : ScV w w.heap.size pv2 vv2 s) (he : ∀ v ∈ s.voices, v.evs.length ≤ 1000000 ∧ ∀ x ∈ v.evs, x.notes.length ≤ 1000000) :
    Calls Tryz.prog 19 #[.agg #[pv1, vv1], .agg #[pv2, vv2]] w fun e w' => e = .returned (.bool true) ∧ Below w.heap.size w w' := by
  obtain ⟨hp1, AV, cV, rfl, hc1, hm1, hvt1⟩ := h1
  obtain ⟨hp2, BV, dV, rfl, hc2, hm2, hvt2⟩ := h2
  have HP1 := Lib.hid hp1
  have HP2 := Lib.hid hp2
  obtain ⟨AP, cp, rfl, _⟩ := hp1.shape
  obtain ⟨BP, dp, rfl, _⟩ := hp2.shape
  have HV1 := Lib.hid hvt1
  have HV2 := Lib.hid hvt2
  have HEV : Box (∀ k (hk : k < s.voices.length), (s.voices[k]'hk).evs.length ≤ 1000000 ∧ ∀ x ∈ (s.voices[k]'hk).evs, x.notes.length ≤ 1000000) := ⟨fun k hk => he _ (List.getElem_mem hk)⟩
  obtain ⟨W0, hW0⟩ : ∃ W0, W0 = (w.alloc (.cells #[.slice AP s.primes.length cp, .slice AV s.voices.length cV] 31)).alloc (.cells #[.slice BP s.primes.length dp, .slice BV s.voices.length dV] 31) := ⟨_, rfl⟩
  have hb0 : Below w.heap.size w W0 := by rw [hW0]; exact ((Below.refl _ _).alloc (Nat.le_refl _) _).alloc (by simp) _
  have HX1 : Hid (Cells W0 w.heap.size 31 [.slice AP s.primes.length cp, .slice AV s.voices.length cV]) := Lib.hid (by rw [hW0]; exact (Cells.new w 31 #[.slice AP s.primes.length cp, .slice AV s.voices.length cV]).alloc _)
  have HX2 : Hid (Cells W0 (w.heap.size + 1) 31 [.slice BP s.primes.length dp, .slice BV s.voices.length dV]) := Lib.hid (by
    have h := Cells.new (w.alloc (.cells #[.slice AP s.primes.length cp, .slice AV s.voices.length cV] 31)) 31 #[.slice BP s.primes.length dp, .slice BV s.voices.length dV]
    rw [World.size_alloc] at h
    rw [hW0]
    exact h)
  have HB0 := Lib.hid hb0
  unfold maxLen at hm1 hm2
  clear hp1 hp2 hvt1 hvt2 hb0 he
  go_enter Tryz.func19, Tryz.ntmps19
  go_upto_region 1 with (fail)
  rw [← hW0]
  clear hW0
  obtain ⟨z0, z1⟩ := cel2 HX1.out
  obtain ⟨y0, y1⟩ := cel2 HX2.out
  go_wp2_with fail
  refine (same_any _ _ s.primes s.primes W0 ((HP1.out.lift HB0.out).row) ((HP2.out.lift HB0.out).row)).mono ?_
  rintro e w1 ⟨rfl, hb1⟩
  rw [sameB_self]
  have HB1 := Lib.hid (HB0.out.trans (hb1.mono HB0.out.size))
  replace HX1 := Lib.hid (HX1.out.below hb1 HX1.out.lt)
  replace HX2 := Lib.hid (HX2.out.below hb1 HX2.out.lt)
  clear hb1 z0 z1 y0 y1 HB0 HP1 HP2
  obtain ⟨z0, z1⟩ := cel2 HX1.out
  obtain ⟨y0, y1⟩ := cel2 HX2.out
  go_upto_region 4 with (fail)
  clear z0 z1 y0 y1
  go_loopw [5] (fun i wr => ∃ k : Nat, k ≤ s.voices.length ∧ i = .int .i64 k ∧ Cells wr w.heap.size 31 [.slice AP s.primes.length cp, .slice AV s.voices.length cV] ∧ Cells wr (w.heap.size + 1) 31 [.slice BP s.primes.length dp, .slice BV s.voices.length dV] ∧ Below w.heap.size w wr) (fun i _ => s.voices.length - (intOf i).toNat)
  case atStart => exact ⟨0, Nat.zero_le _, rfl, HX1.out, HX2.out, HB1.out⟩
  case round =>
    clear HX1 HX2 HB1
    obtain ⟨k, hk, rfl, hx1, hx2, hbw⟩ := hrel
    have HX1 := Lib.hid hx1
    have HX2 := Lib.hid hx2
    have HBW := Lib.hid hbw
    obtain ⟨z0, z1⟩ := cel2 hx1
    obtain ⟨y0, y1⟩ := cel2 hx2
    have hx2l := hx2.lt
    by_cases hkl : k < s.voices.length
    · obtain ⟨b1, o1, A1, C1, rfl, _, _, q0, q1, h1c, h1m, hev1⟩ := HV1.out.at_ hkl
      obtain ⟨b2, o2, A2, C2, rfl, _, _, r0, r1, h2c, h2m, hev2⟩ := HV2.out.at_ hkl
      replace q0 := keep_cell q0 hbw
      replace q1 := keep_cell q1 hbw
      replace r0 := keep_cell r0 hbw
      replace r1 := keep_cell r1 hbw
      obtain ⟨hel, hnl⟩ := HEV.out k hkl
      have HNL : Box (∀ x ∈ (s.voices[k]'hkl).evs, x.notes.length ≤ 1000000) := ⟨hnl⟩
      have HE1 := Lib.hid hev1
      have HE2 := Lib.hid hev2
      have hkv : (k : Int) < (s.voices.length : Int) := by omega
      have hk0 : (0 : Int) ≤ (k : Int) := by omega
      clear hev1 hev2 hnl hx1 hx2 hbw
      unfold maxLen at h1m h2m
      generalize s.voices[k]'hkl = v at *
      obtain ⟨nm, es⟩ := v
      dsimp only at *
      go_upto_region 6 with (fail)
      go_cut [6, 7] (fun s6 s7 wx => ∃ g6 g7, s6 = .pointer (some ⟨g6, 0, Option.none⟩) ∧ s7 = .pointer (some ⟨g7, 0, Option.none⟩) ∧ Cells wx g6 52 [.string ⟨nm.toArray⟩, .slice A1 es.length C1] ∧ Cells wx g7 52 [.string ⟨nm.toArray⟩, .slice A2 es.length C2] ∧ Below wr.heap.size wr wx ∧ w.heap.size + 2 ≤ g6 ∧ w.heap.size + 2 ≤ g7)
      case first =>
        have hB : Below wr.heap.size wr wr.drew := below_to_drew (Below.refl _ _)
        go_region_held3 (fun w' => w'.cell? ⟨w.heap.size, 1, Option.none⟩ = some (.slice (some ⟨b1, o1, Option.none⟩) s.voices.length cV) ∧ w'.cell? ⟨w.heap.size + 1, 1, Option.none⟩ = some (.slice (some ⟨b2, o2, Option.none⟩) s.voices.length dV) ∧ w'.cell? ⟨b1, o1 + k * 2, Option.none⟩ = some (.string ⟨nm.toArray⟩) ∧ w'.cell? ⟨b1, o1 + k * 2 + 1, Option.none⟩ = some (.slice A1 es.length C1) ∧ w'.cell? ⟨b2, o2 + k * 2, Option.none⟩ = some (.string ⟨nm.toArray⟩) ∧ w'.cell? ⟨b2, o2 + k * 2 + 1, Option.none⟩ = some (.slice A2 es.length C2))
          (first | exact ⟨keep_cell z1 hB, keep_cell y1 hB, keep_cell q0 hB, keep_cell q1 hB, keep_cell r0 hB, keep_cell r1 hB⟩ | exact ⟨keep_cell z1 (Below.alloc hB (hB).size _), keep_cell y1 (Below.alloc hB (hB).size _), keep_cell q0 (Below.alloc hB (hB).size _), keep_cell q1 (Below.alloc hB (hB).size _), keep_cell r0 (Below.alloc hB (hB).size _), keep_cell r1 (Below.alloc hB (hB).size _)⟩ | exact ⟨keep_cell z1 (Below.alloc (Below.alloc hB (hB).size _) ((Below.alloc hB (hB).size _)).size _), keep_cell y1 (Below.alloc (Below.alloc hB (hB).size _) ((Below.alloc hB (hB).size _)).size _), keep_cell q0 (Below.alloc (Below.alloc hB (hB).size _) ((Below.alloc hB (hB).size _)).size _), keep_cell q1 (Below.alloc (Below.alloc hB (hB).size _) ((Below.alloc hB (hB).size _)).size _), keep_cell r0 (Below.alloc (Below.alloc hB (hB).size _) ((Below.alloc hB (hB).size _)).size _), keep_cell r1 (Below.alloc (Below.alloc hB (hB).size _) ((Below.alloc hB (hB).size _)).size _)⟩ | exact ⟨keep_cell z1 (sr2_below (by omega) (Below.alloc (Below.alloc hB (hB).size _) ((Below.alloc hB (hB).size _)).size _)), keep_cell y1 (sr2_below (by omega) (Below.alloc (Below.alloc hB (hB).size _) ((Below.alloc hB (hB).size _)).size _)), keep_cell q0 (sr2_below (by omega) (Below.alloc (Below.alloc hB (hB).size _) ((Below.alloc hB (hB).size _)).size _)), keep_cell q1 (sr2_below (by omega) (Below.alloc (Below.alloc hB (hB).size _) ((Below.alloc hB (hB).size _)).size _)), keep_cell r0 (sr2_below (by omega) (Below.alloc (Below.alloc hB (hB).size _) ((Below.alloc hB (hB).size _)).size _)), keep_cell r1 (sr2_below (by omega) (Below.alloc (Below.alloc hB (hB).size _) ((Below.alloc hB (hB).size _)).size _))⟩ | exact ⟨keep_cell z1 (sr2_below (by omega) (sr2_below (by omega) (Below.alloc (Below.alloc hB (hB).size _) ((Below.alloc hB (hB).size _)).size _))), keep_cell y1 (sr2_below (by omega) (sr2_below (by omega) (Below.alloc (Below.alloc hB (hB).size _) ((Below.alloc hB (hB).size _)).size _))), keep_cell q0 (sr2_below (by omega) (sr2_below (by omega) (Below.alloc (Below.alloc hB (hB).size _) ((Below.alloc hB (hB).size _)).size _))), keep_cell q1 (sr2_below (by omega) (sr2_below (by omega) (Below.alloc (Below.alloc hB (hB).size _) ((Below.alloc hB (hB).size _)).size _))), keep_cell r0 (sr2_below (by omega) (sr2_below (by omega) (Below.alloc (Below.alloc hB (hB).size _) ((Below.alloc hB (hB).size _)).size _))), keep_cell r1 (sr2_below (by omega) (sr2_below (by omega) (Below.alloc (Below.alloc hB (hB).size _) ((Below.alloc hB (hB).size _)).size _)))⟩ | go_keep)
          ((first | fail))
        all_goals
          go_wp2_with fail
          go_meet
          refine ⟨_, _, rfl, rfl, ?_, ?_, ?_, by omega, by omega⟩
          · (first | exact (two_cells wr _ _ _).1 | exact (two_cells wr _ _ _).2.1)
          · (first | exact (two_cells wr _ _ _).2.1 | exact (two_cells wr _ _ _).1)
          · exact (two_cells wr _ _ _).2.2
      case rest =>
        rename World => wx
        obtain ⟨g6, g7, rfl, rfl, hc6, hc7, hbx, hg6, hg7⟩ := hcut
        have HX1x := Lib.hid (HX1.out.below hbx HX1.out.lt)
        have HX2x := Lib.hid (HX2.out.below hbx HX2.out.lt)
        have HBX := Lib.hid (HBW.out.trans (hbx.mono HBW.out.size))
        have HC6 := Lib.hid hc6
        have HC7 := Lib.hid hc7
        obtain ⟨n0, n1⟩ := cel2 hc6
        obtain ⟨m0, m1⟩ := cel2 hc7
        clear hc6 hc7 hbx z0 z1 y0 y1 q0 q1 r0 r1 HX1 HX2 HBW
        go_upto_region 10 with (fail)
        clear n0 n1 m0 m1
        go_loopw [8] (fun i wy => ∃ j : Nat, j ≤ es.length ∧ i = .int .i64 j ∧ Cells wy g6 52 [.string ⟨nm.toArray⟩, .slice A1 es.length C1] ∧ Cells wy g7 52 [.string ⟨nm.toArray⟩, .slice A2 es.length C2] ∧ Cells wy w.heap.size 31 [.slice AP s.primes.length cp, .slice (some ⟨b1, o1, Option.none⟩) s.voices.length cV] ∧ Cells wy (w.heap.size + 1) 31 [.slice BP s.primes.length dp, .slice (some ⟨b2, o2, Option.none⟩) s.voices.length dV] ∧ Below w.heap.size w wy) (fun i _ => es.length - (intOf i).toNat)
        case atStart => exact ⟨0, Nat.zero_le _, rfl, HC6.out, HC7.out, HX1x.out, HX2x.out, HBX.out⟩
        case round =>
          clear HC6 HC7 HX1x HX2x HBX
          rename World => wy
          obtain ⟨j, hj, rfl, hc6, hc7, hx1, hx2, hby⟩ := hrel
          have HC6 := Lib.hid hc6
          have HC7 := Lib.hid hc7
          have HX1 := Lib.hid hx1
          have HX2 := Lib.hid hx2
          have HBY := Lib.hid hby
          obtain ⟨n0, n1⟩ := cel2 hc6
          obtain ⟨m0, m1⟩ := cel2 hc7
          clear hc6 hc7 hx1 hx2
          by_cases hjl : j < es.length
          · obtain ⟨b3, o3, A3, C3, rfl, _, _, q0, q1, q2, h3c, h3m, hnt1⟩ := HE1.out.at_ hjl
            obtain ⟨b4, o4, A4, C4, rfl, _, _, r0, r1, r2, h4c, h4m, hnt2⟩ := HE2.out.at_ hjl
            have Q2 := Lib.hid q2
            have R2 := Lib.hid r2
            replace q0 := keep_cell q0 hby
            replace q1 := keep_cell q1 hby
            replace q2 := keep_cell q2 hby
            replace r0 := keep_cell r0 hby
            replace r1 := keep_cell r1 hby
            replace r2 := keep_cell r2 hby
            have hnl := HNL.out _ (List.getElem_mem hjl)
            have HN1 := Lib.hid hnt1
            have HN2 := Lib.hid hnt2
            have hji : (j : Int) < (es.length : Int) := by omega
            have hj0 : (0 : Int) ≤ (j : Int) := by omega
            clear hnt1 hnt2 hby
            unfold maxLen at h3m h4m
            generalize es[j]'hjl = x at *
            obtain ⟨tn, td, ns⟩ := x
            dsimp only at *
            have hne : ∀ W, (binOp .neq 55 (.agg #[.string ⟨tn.toArray⟩, .string ⟨td.toArray⟩]) (.agg #[.string ⟨tn.toArray⟩, .string ⟨td.toArray⟩])).run Tryz.prog W = .ok (.bool false) W := fun W => by rw [rat_neq]; simp
            have hB : Below wy.heap.size wy wy.drew := below_to_drew (Below.refl _ _)
            go_wp2_with fail
            go_region_held3 (fun w' => w'.cell? ⟨g6, 1, Option.none⟩ = some (.slice (some ⟨b3, o3, Option.none⟩) es.length C1) ∧ w'.cell? ⟨g7, 1, Option.none⟩ = some (.slice (some ⟨b4, o4, Option.none⟩) es.length C2) ∧ w'.cell? ⟨b3, o3 + j * 3, Option.none⟩ = some (.string ⟨tn.toArray⟩) ∧ w'.cell? ⟨b3, o3 + j * 3 + 1, Option.none⟩ = some (.string ⟨td.toArray⟩) ∧ w'.cell? ⟨b3, o3 + j * 3 + 2, Option.none⟩ = some (.slice A3 ns.length C3) ∧ w'.cell? ⟨b4, o4 + j * 3, Option.none⟩ = some (.string ⟨tn.toArray⟩) ∧ w'.cell? ⟨b4, o4 + j * 3 + 1, Option.none⟩ = some (.string ⟨td.toArray⟩) ∧ w'.cell? ⟨b4, o4 + j * 3 + 2, Option.none⟩ = some (.slice A4 ns.length C4))
              (first | exact ⟨keep_cell n1 hB, keep_cell m1 hB, keep_cell q0 hB, keep_cell q1 hB, keep_cell q2 hB, keep_cell r0 hB, keep_cell r1 hB, keep_cell r2 hB⟩ | go_keep)
              ((first | fail))
            replace HC6 := Lib.hid (HC6.out.below hB HC6.out.lt)
            replace HC7 := Lib.hid (HC7.out.below hB HC7.out.lt)
            replace HX1 := Lib.hid (HX1.out.below hB HX1.out.lt)
            replace HX2 := Lib.hid (HX2.out.below hB HX2.out.lt)
            replace HBY := Lib.hid (HBY.out.trans (hB.mono HBY.out.size))
            replace n1 := keep_cell n1 hB
            replace m1 := keep_cell m1 hB
            replace q2 := keep_cell q2 hB
            replace r2 := keep_cell r2 hB
            clear hB n0 m0 q0 q1 r0 r1 hne
            go_upto_region 15 with (fail)
            obtain ⟨W7, hW7⟩ : ∃ W7, W7 = wy.drew := ⟨_, rfl⟩
            rw [← hW7] at HC6 HC7 HX1 HX2 HBY ⊢
            clear hW7 n1 m1 q2 r2
            go_loopw [9] (fun i wz => ∃ m : Nat, m ≤ ns.length ∧ i = .int .i64 m ∧ Cells wz g6 52 [.string ⟨nm.toArray⟩, .slice (some ⟨b3, o3, Option.none⟩) es.length C1] ∧ Cells wz g7 52 [.string ⟨nm.toArray⟩, .slice (some ⟨b4, o4, Option.none⟩) es.length C2] ∧ Cells wz w.heap.size 31 [.slice AP s.primes.length cp, .slice (some ⟨b1, o1, Option.none⟩) s.voices.length cV] ∧ Cells wz (w.heap.size + 1) 31 [.slice BP s.primes.length dp, .slice (some ⟨b2, o2, Option.none⟩) s.voices.length dV] ∧ Below w.heap.size w wz) (fun i _ => ns.length - (intOf i).toNat)
            case atStart => exact ⟨0, Nat.zero_le _, rfl, HC6.out, HC7.out, HX1.out, HX2.out, HBY.out⟩
            case round =>
              clear HC6 HC7 HX1 HX2 HBY
              rename World => wz
              obtain ⟨m, hm, rfl, hc6, hc7, hx1, hx2, hbz⟩ := hrel
              have HC6 := Lib.hid hc6
              have HC7 := Lib.hid hc7
              have HX1 := Lib.hid hx1
              have HX2 := Lib.hid hx2
              have HBZ := Lib.hid hbz
              have q2 := keep_cell Q2.out hbz
              have r2 := keep_cell R2.out hbz
              obtain ⟨n0, n1⟩ := cel2 hc6
              obtain ⟨m0, m1⟩ := cel2 hc7
              clear hc6 hc7 hx1 hx2
              by_cases hml : m < ns.length
              · obtain ⟨b5, o5, u1, rfl, _, _, g0, hr1⟩ := HN1.out.at_ hml
                obtain ⟨b6, o6, u2, rfl, _, _, g1, hr2⟩ := HN2.out.at_ hml
                replace g0 := keep_cell g0 hbz
                replace g1 := keep_cell g1 hbz
                have HSM := Lib.hid (fun (W : World) (hb : Below wz.heap.size wz W) => same_any u1 u2 (ns[m]'hml) (ns[m]'hml) W (((hr1.lift hbz).lift hb).row) (((hr2.lift hbz).lift hb).row))
                rw [sameB_self] at HSM
                obtain ⟨U1, k1, rfl, _⟩ := hr1.shape
                obtain ⟨U2, k2, rfl, _⟩ := hr2.shape
                have hmi : (m : Int) < (ns.length : Int) := by omega
                have hm0 : (0 : Int) ≤ (m : Int) := by omega
                clear hr1 hr2 hbz
                generalize ns[m]'hml = y at *
                have hB : Below wz.heap.size wz wz.drew := below_to_drew (Below.refl _ _)
                go_wp2_with fail
                go_region_held3 (fun w' => w'.cell? ⟨g6, 1, Option.none⟩ = some (.slice (some ⟨b3, o3, Option.none⟩) es.length C1) ∧ w'.cell? ⟨g7, 1, Option.none⟩ = some (.slice (some ⟨b4, o4, Option.none⟩) es.length C2) ∧ w'.cell? ⟨b3, o3 + j * 3 + 2, Option.none⟩ = some (.slice (some ⟨b5, o5, Option.none⟩) ns.length C3) ∧ w'.cell? ⟨b4, o4 + j * 3 + 2, Option.none⟩ = some (.slice (some ⟨b6, o6, Option.none⟩) ns.length C4) ∧ w'.cell? ⟨b5, o5 + m, Option.none⟩ = some (.slice U1 y.length k1) ∧ w'.cell? ⟨b6, o6 + m, Option.none⟩ = some (.slice U2 y.length k2))
                  (first | exact ⟨keep_cell n1 hB, keep_cell m1 hB, keep_cell q2 hB, keep_cell r2 hB, keep_cell g0 hB, keep_cell g1 hB⟩ | go_keep)
                  ((first
                    | (go_at_call 38; (with_reducible refine (HSM.out _ hB).mono ?_); rintro e wA ⟨rfl, hbk⟩; replace hB := hB.trans (hbk.mono hB.size); clear hbk)))
                all_goals
                  have HC6n := Lib.hid (HC6.out.below hB HC6.out.lt)
                  have HC7n := Lib.hid (HC7.out.below hB HC7.out.lt)
                  have HX1n := Lib.hid (HX1.out.below hB HX1.out.lt)
                  have HX2n := Lib.hid (HX2.out.below hB HX2.out.lt)
                  have HBN := Lib.hid (HBZ.out.trans (hB.mono HBZ.out.size))
                  clear hB n0 n1 m0 m1 q2 r2 g0 g1 HSM
                  go_wp2_with fail
                  go_roundw
                  case rel => exact ⟨m + 1, by omega, by go_num, HC6n.out, HC7n.out, HX1n.out, HX2n.out, HBN.out⟩
                  case measure => simp [intOf]; omega
              · obtain rfl : m = ns.length := by omega
                go_wp2_with fail
                go_roundw
                case rel => exact ⟨j + 1, by omega, by go_num, HC6.out, HC7.out, HX1.out, HX2.out, HBZ.out⟩
                case measure => simp [intOf]; omega
          · obtain rfl : j = es.length := by omega
            go_wp2_with fail
            go_roundw
            case rel => exact ⟨k + 1, by omega, by go_num, HX1.out, HX2.out, HBY.out⟩
            case measure => simp [intOf]; omega
    · obtain rfl : k = s.voices.length := by omega
      go_wp2_with fail
      go_ret
      exact ⟨rfl, HBW.out⟩

end Go.Proofs.YtphlodmdcmcjnaaGreatDoor
