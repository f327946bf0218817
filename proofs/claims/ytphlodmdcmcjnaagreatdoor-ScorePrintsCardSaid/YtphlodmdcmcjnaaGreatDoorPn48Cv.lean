/- schismalaw48.print. -/
import Derived.Test.YtphlodmdcmcjnaaGreatDoorGXLCv
namespace Go.Proofs.YtphlodmdcmcjnaaGreatDoor
open Go.RowKit Go.Lib

theorem join_snoc : ∀ {ws : List (List UInt8)} (_ : ws ≠ []) (x : List UInt8), Lib.join (ws ++ [x]) [32] = Lib.join ws [32] ++ 32 :: x
  | [], h, _ => absurd rfl h
  | [a], _, x => by rw [List.cons_append, List.nil_append, joinC_more, Lib.join_one, Lib.join_one]
  | a :: b :: r, _, x => by
    have ih := join_snoc (ws := b :: r) (by simp) x
    rw [List.cons_append] at ih
    rw [List.cons_append, List.cons_append, joinC_more, joinC_more, ih]
    simp
theorem join_mono (f : Nat → List (List UInt8)) (n : Nat) (h : ∀ i, i < n → ∃ x, f (i + 1) = f i ++ [x]) (h0 : ∀ i, i ≤ n → f i ≠ []) : ∀ d m, m + d = n → (Lib.join (f m) [32]).length ≤ (Lib.join (f n) [32]).length
  | 0, m, e => by
    obtain rfl : m = n := by omega
    exact Nat.le_refl _
  | d + 1, m, e => by
    obtain ⟨x, hx⟩ := h m (by omega)
    have h1 := join_mono f n h h0 d (m + 1) (by omega)
    rw [hx, join_snoc (h0 m (by omega)), List.length_append] at h1
    omega
theorem ba_line (t a b : List UInt8) : (⟨t.toArray⟩ ++ (⟨a.toArray⟩ ++ ⟨b.toArray⟩) : ByteArray) = ⟨(t ++ (a ++ b)).toArray⟩ := by rw [ba_append, ba_append]

set_option maxRecDepth 100000 in
set_option maxHeartbeats 8000000 in
theorem print48_any (pv vv : Value) (s : Sc) (w : World) (hS : Std w) (h : ScV w w.heap.size pv vv s) (hok : ScOk s) (hT : (lnsT (scL s)).length ≤ 1000000) :
    Calls Tryz.prog 18 #[.agg #[pv, vv]] w fun e w' => e = .returned (.string ⟨(lnsT (scL s)).toArray⟩) ∧ Below w.heap.size w w' := by
  obtain ⟨hp, AV, cV, rfl, hcv1, hcv2, hvt⟩ := h
  have HP := Lib.hid hp
  obtain ⟨AP, cp, rfl, _⟩ := hp.shape
  unfold maxLen at hcv2
  have HVT := Lib.hid hvt
  have HOK : Box (ScOk s) := ⟨hok⟩
  have HTT : Box ((lnsT (scL s)).length ≤ 1000000) := ⟨hT⟩
  have HS := Lib.hid hS
  have hv8 := hok.vcs
  have hp6 := primeErr_six hok.prm
  have HPJ : Box (∀ k, k ≤ s.primes.length → (Lib.join (prW (s.primes.take k)) [32]).length ≤ 1000000) := ⟨fun k hk => by
    have h1 := join_mono (fun k => prW (s.primes.take k)) s.primes.length (fun i hi => ⟨_, prW_next hi⟩) (fun i _ => by unfold prW; simp) (s.primes.length - k) k (by omega)
    have h2 := scTo_le s 0
    rw [scTo_zero, lnsT_one, lnT_len] at h2
    rw [List.take_length] at h1
    have h3 := h2.1
    omega⟩
  obtain ⟨W0, hW0⟩ : ∃ W0, W0 = w.alloc (.cells #[.slice AP s.primes.length cp, .slice AV s.voices.length cV] 31) := ⟨_, rfl⟩
  have hba : Below w.heap.size w W0 := by rw [hW0]; exact (Below.refl _ _).alloc (Nat.le_refl _) _
  have HBA := Lib.hid hba
  have HCB : Hid (Cells W0 w.heap.size 31 [.slice AP s.primes.length cp, .slice AV s.voices.length cV]) := Lib.hid (by rw [hW0]; exact Cells.new w 31 #[.slice AP s.primes.length cp, .slice AV s.voices.length cV])
  have HJ0 : Box (Lib.join (prW (s.primes.take 0)) [32] = [112, 114, 105, 109, 101, 115]) := ⟨by rw [List.take_zero]; exact Lib.join_one _ _⟩
  clear hp hvt hba hS hT hok
  go_enter Tryz.func18, Tryz.ntmps18
  go_upto_region 3 with (fail)
  rw [← hW0]
  clear hW0
  go_loopw [3, 4] (fun sv i wr => ∃ k : Nat, k ≤ s.primes.length ∧ i = .int .i64 k ∧ sv = .string ⟨(Lib.join (prW (s.primes.take k)) [32]).toArray⟩ ∧ Cells wr w.heap.size 31 [.slice AP s.primes.length cp, .slice AV s.voices.length cV] ∧ Below w.heap.size w wr) (fun _ i _ => s.primes.length - (intOf i).toNat)
  case atStart => exact ⟨0, Nat.zero_le _, rfl, by rw [HJ0.out], HCB.out, HBA.out⟩
  case round =>
    clear HCB HBA HJ0
    obtain ⟨k, hk, rfl, rfl, hcb, hbw⟩ := hrel
    have HCB := Lib.hid hcb
    have HBW := Lib.hid hbw
    obtain ⟨z0, z1⟩ := cel2 hcb
    have hjl := HPJ.out k hk
    by_cases hlt : k < s.primes.length
    · obtain ⟨A', c', e', _, _, hr⟩ := (HP.out.lift hbw).row
      injection e' with e1 _ e3
      subst e1 e3
      obtain ⟨ad, rfl, _, hca⟩ := hr.i_at hlt
      have hyk : s.primes[k]?.getD 0 = s.primes[k]'hlt := by rw [List.getElem?_eq_getElem hlt]; rfl
      rw [hyk] at hca
      have hy := primeErr_mem HOK.out.prm (List.getElem_mem hlt)
      have HNX : Box (Lib.join (prW (s.primes.take (k + 1))) [32] = Lib.join (prW (s.primes.take k)) [32] ++ 32 :: itoa (s.primes[k]'hlt)) := ⟨by rw [prW_next hlt, join_snoc (by unfold prW; simp)]⟩
      clear hyk
      generalize s.primes[k]'hlt = y at *
      have HO1 : Hid (∀ W, Std W → Calls Tryz.prog 46 #[.int .i64 y, .int .i64 1] W fun e w' => e = .returned (.tuple #[.agg #[.string ⟨(itoa y).toArray⟩, .string ⟨#[49]⟩], .int .i64 0]) ∧ Below W.heap.size W w') := Lib.hid (fun W h => by
        have h1 := fracOf_any y 1 W h (by omega) (by decide) (by decide)
        rw [(low_one y).1, (low_one y).2, show itoa 1 = [49] by kernel_rfl] at h1
        exact h1)
      have hyl : (itoa y).length ≤ 100 := Nat.le_trans (small_len (z := y) (by omega)).1 (by decide)
      have HTX := Lib.hid (fun W => fracText_any (itoa y) [49] W (by omega) (by decide))
      rw [show ratText (itoa y) [49] = itoa y from rfl] at HTX
      have HSW := Lib.hid (HS.out.below hbw (Nat.le_refl _))
      have hki : (k : Int) < (s.primes.length : Int) := by omega
      have hk0 : (0 : Int) ≤ (k : Int) := by omega
      clear hy hr hcb hbw
      generalize itoa y = yt at *
      generalize Lib.join (prW (s.primes.take k)) [32] = tx at *
      go_wp2_with fail
      refine (HO1.out _ HSW.out).mono ?_
      rintro e w5 ⟨rfl, hb5⟩
      obtain ⟨W5, hW5⟩ : ∃ W5, W5 = w5.alloc (.cells #[.string ⟨yt.toArray⟩, .string ⟨#[49]⟩] 55) := ⟨_, rfl⟩
      have hba : Below w5.heap.size w5 W5 := by rw [hW5]; exact (Below.refl _ _).alloc (Nat.le_refl _) _
      have HXB : Hid (Cells W5 w5.heap.size 55 [.string ⟨yt.toArray⟩, .string ⟨#[49]⟩]) := Lib.hid (by rw [hW5]; exact Cells.new w5 55 #[.string ⟨yt.toArray⟩, .string ⟨#[49]⟩])
      have hb55 := hb5.trans (hba.mono hb5.size)
      replace HCB := Lib.hid (HCB.out.below hb55 HCB.out.lt)
      replace HBW := Lib.hid (HBW.out.trans (hb55.mono HBW.out.size))
      obtain ⟨x0, x1⟩ := cel2 HXB.out
      clear hb5 hba hb55 HXB hca z0 z1
      go_upto_region 6 with (fail)
      rw [← hW5]
      clear hW5
      go_wp2_with fail
      refine (HTX.out _).mono ?_
      rintro e w6 ⟨rfl, hb6⟩
      replace HCB := Lib.hid (HCB.out.below hb6 HCB.out.lt)
      replace HBW := Lib.hid (HBW.out.trans (hb6.mono HBW.out.size))
      have hs1 : ¬ 9223372036854775807 < 1 + yt.length := by omega
      have hs2 : ¬ 9223372036854775807 < tx.length + (1 + yt.length) := by omega
      clear hb6 x0 x1
      go_wp2_with fail
      go_roundw
      case rel => exact ⟨k + 1, by omega, by go_num, by rw [HNX.out]; exact congrArg Value.string (ba_line tx [32] yt), HCB.out, HBW.out⟩
      case measure => simp [intOf]; omega
    · obtain rfl : k = s.primes.length := by omega
      rw [List.take_length] at hjl ⊢
      have HL0 : Box (lnsT (scTo s 0) = Lib.join (prW s.primes) [32] ++ [10]) := ⟨by rw [scTo_zero, lnsT_one]; rfl⟩
      have hs1 : ¬ 9223372036854775807 < (Lib.join (prW s.primes) [32]).length + 1 := by omega
      clear hcb hbw
      generalize Lib.join (prW s.primes) [32] = tx at *
      go_upto_region 9 with (fail)
      clear z0 z1
      go_loopw [3, 7] (fun sv i wr => ∃ k : Nat, k ≤ s.voices.length ∧ i = .int .i64 k ∧ sv = .string ⟨(lnsT (scTo s k)).toArray⟩ ∧ Cells wr w.heap.size 31 [.slice AP s.primes.length cp, .slice AV s.voices.length cV] ∧ Below w.heap.size w wr) (fun _ i _ => s.voices.length - (intOf i).toNat)
      case atStart => exact ⟨0, Nat.zero_le _, rfl, by rw [HL0.out, ← ba_append], HCB.out, HBW.out⟩
      case round =>
        clear HCB HBW HL0
        rename World => wa
        obtain ⟨k, hk, rfl, rfl, hcb, hbw⟩ := hrel
        have HCB := Lib.hid hcb
        have HBW := Lib.hid hbw
        obtain ⟨z0, z1⟩ := cel2 hcb
        have hT := HTT.out
        have hsl := (scTo_le s k).1
        by_cases hkl : k < s.voices.length
        · obtain ⟨b1, o1, A1, C1, rfl, _, _, q0, q1, h1c, h1m, hev⟩ := HVT.out.at_ hkl
          have Q1 := Lib.hid q1
          replace q0 := keep_cell q0 hbw
          replace q1 := keep_cell q1 hbw
          have HNV : Box (lnsT (scTo s (k + 1)) = lnsT (scTo s k) ++ lnsT (vcL (s.voices[k]'hkl))) := ⟨by rw [scTo_next hkl, lnsT_append]⟩
          have hl2 := (scTo_le s (k + 1)).1
          rw [HNV.out, List.length_append] at hl2
          have HEV5 : Box ((s.voices[k]'hkl).evs.length ≤ 500 ∧ ∀ x ∈ (s.voices[k]'hkl).evs, FracB x.num x.den ∧ x.notes.length ≤ 12 ∧ ∀ y ∈ x.notes, chkAll s.primes [y] = 0) := ⟨HOK.out.evs _ (List.getElem_mem hkl), HOK.out.ev _ (List.getElem_mem hkl)⟩
          have h500 := HEV5.out.1
          have HEV := Lib.hid hev
          have hkv : (k : Int) < (s.voices.length : Int) := by omega
          have hk0 : (0 : Int) ≤ (k : Int) := by omega
          clear hev hcb hbw
          unfold maxLen at h1m
          generalize s.voices[k]'hkl = v at *
          have HVA : Box (lnsT (vcL v) = lnsT (vcTo v v.evs.length)) := ⟨by rw [vcTo_all]⟩
          have HVN : Box (∀ j (hj : j < v.evs.length), lnsT (vcTo v (j + 1)) = lnsT (vcTo v j) ++ (Lib.join (evW (v.evs[j]'hj)) [32] ++ [10])) := ⟨fun j hj => by rw [vcTo_next hj, lnsT_append, lnsT_one]; rfl⟩
          have HVL : Box (∀ j, (lnsT (vcTo v j)).length ≤ (lnsT (vcL v)).length) := ⟨fun j => (vcTo_le v j).1⟩
          obtain ⟨nm, es⟩ := v
          dsimp only at *
          have HV0 : Box (lnsT (vcTo ⟨nm, es⟩ 0) = [118, 111, 105, 99, 101, 32] ++ nm ++ [10]) := ⟨by
            show lnsT [vcHd ⟨nm, es⟩] = _
            rw [lnsT_one]
            show Lib.join [[118, 111, 105, 99, 101], nm] [32] ++ [10] = _
            rw [joinC_more, Lib.join_one]
            rfl⟩
          have hl3 := HVL.out 0
          generalize lnsT (vcL ⟨nm, es⟩) = vl at *
          obtain ⟨vt, hvt⟩ : ∃ vt : Nat → List UInt8, ∀ j, lnsT (vcTo ⟨nm, es⟩ j) = vt j := ⟨_, fun _ => rfl⟩
          simp only [hvt] at HVA HVN HVL HV0
          rw [hvt 0, HV0.out, List.length_append, List.length_append] at hl3
          simp only [List.length_cons, List.length_nil] at hl3
          clear hvt
          generalize lnsT (scTo s k) = tx at *
          have hs1 : ¬ 9223372036854775807 < 6 + nm.length := by omega
          have hs2 : ¬ 9223372036854775807 < 6 + nm.length + 1 := by omega
          have hs3 : ¬ 9223372036854775807 < tx.length + (6 + nm.length + 1) := by omega
          go_upto_region 13 with (fail)
          clear z0 z1 q0 q1 hs1 hs2 hs3
          go_loopw [3, 8] (fun sv i wb => ∃ j : Nat, j ≤ es.length ∧ i = .int .i64 j ∧ sv = .string ⟨(tx ++ vt j).toArray⟩ ∧ Cells wb w.heap.size 31 [.slice AP s.primes.length cp, .slice (some ⟨b1, o1, Option.none⟩) s.voices.length cV] ∧ Below w.heap.size w wb) (fun _ i _ => es.length - (intOf i).toNat)
          case atStart => exact ⟨0, Nat.zero_le _, rfl, by rw [HV0.out]; exact congrArg Value.string (ba_ext (by simp)), HCB.out, HBW.out⟩
          case round =>
            clear HCB HBW HV0
            rename World => wb
            obtain ⟨j, hj, rfl, rfl, hcb, hbb⟩ := hrel
            have HCB := Lib.hid hcb
            have HBB := Lib.hid hbb
            obtain ⟨z0, z1⟩ := cel2 hcb
            have q1 := keep_cell Q1.out hbb
            have hvl := HVL.out j
            by_cases hjl : j < es.length
            · obtain ⟨b2, o2, A2, C2, rfl, _, _, p0, p1, p2, h2c, h2m, hnt⟩ := HEV.out.at_ hjl
              replace p0 := keep_cell p0 hbb
              replace p1 := keep_cell p1 hbb
              replace p2 := keep_cell p2 hbb
              obtain ⟨hfr, hn12, hck⟩ := HEV5.out.2 _ (List.getElem_mem hjl)
              have hfl := fracB_len hfr
              have HNE : Box (vt (j + 1) = vt j ++ (Lib.join (evW (es[j]'hjl)) [32] ++ [10])) := ⟨HVN.out j hjl⟩
              have HCK : Box (∀ y ∈ (es[j]'hjl).notes, chkAll s.primes [y] = 0) := ⟨hck⟩
              have HNT := Lib.hid hnt
              have hvl2 := HVL.out (j + 1)
              rw [HNE.out, List.length_append, List.length_append, List.length_singleton] at hvl2
              have hji : (j : Int) < (es.length : Int) := by omega
              have hj0 : (0 : Int) ≤ (j : Int) := by omega
              clear hnt hfr hck
              unfold maxLen at h2m
              generalize es[j]'hjl = x at *
              have HJM : Box (∀ i, i ≤ x.notes.length → (Lib.join (evWT x i) [32]).length ≤ (Lib.join (evW x) [32]).length) := ⟨fun i hi => by
                have h1 := join_mono (evWT x) x.notes.length (fun i hi => ⟨_, evWT_next hi⟩) (fun i _ => by unfold evWT; simp) (x.notes.length - i) i (by omega)
                rw [evWT_all] at h1
                exact h1⟩
              have HJN : Box (∀ i (hi : i < x.notes.length), Lib.join (evWT x (i + 1)) [32] = Lib.join (evWT x i) [32] ++ 32 :: ketT (x.notes[i]'hi)) := ⟨fun i hi => by rw [evWT_next hi, join_snoc (by unfold evWT; simp)]⟩
              have HJA : Box (Lib.join (evWT x x.notes.length) [32] = Lib.join (evW x) [32]) := ⟨by rw [evWT_all]⟩
              obtain ⟨xn, xd, ns⟩ := x
              dsimp only at *
              have HJ0 : Box (Lib.join (evWT ⟨xn, xd, ns⟩ 0) [32] = ratText xn xd ++ [32, 58]) := ⟨by
                show Lib.join [ratText xn xd, [58]] [32] = _
                rw [joinC_more, Lib.join_one]⟩
              have hjm := HJM.out 0 (Nat.zero_le _)
              rw [HJ0.out, List.length_append] at hjm
              simp only [List.length_cons, List.length_nil] at hjm
              obtain ⟨jt, hjt⟩ : ∃ jt : Nat → List UInt8, ∀ i, Lib.join (evWT ⟨xn, xd, ns⟩ i) [32] = jt i := ⟨_, fun _ => rfl⟩
              simp only [hjt] at HJM HJN HJA HJ0
              clear hjt
              generalize Lib.join (evW ⟨xn, xd, ns⟩) [32] = jl at *
              have HTX := Lib.hid (fun W => fracText_any xn xd W (by omega) (by omega))
              generalize ratText xn xd = rt at *
              obtain ⟨XB, hXB⟩ : ∃ XB, XB = wb.heap.size := ⟨_, rfl⟩
              obtain ⟨W9, hW9⟩ : ∃ W9, W9 = wb.alloc (.cells #[.string ⟨xn.toArray⟩, .string ⟨xd.toArray⟩, .slice A2 ns.length C2] 65) := ⟨_, rfl⟩
              have hba : Below wb.heap.size wb W9 := by rw [hW9]; exact (Below.refl _ _).alloc (Nat.le_refl _) _
              have HXB : Hid (Cells W9 XB 65 [.string ⟨xn.toArray⟩, .string ⟨xd.toArray⟩, .slice A2 ns.length C2]) := Lib.hid (by rw [hW9, hXB]; exact Cells.new wb 65 #[.string ⟨xn.toArray⟩, .string ⟨xd.toArray⟩, .slice A2 ns.length C2])
              replace HCB := Lib.hid (HCB.out.below hba HCB.out.lt)
              replace HBB := Lib.hid (HBB.out.trans (hba.mono HBB.out.size))
              obtain ⟨x0, x1, x2⟩ := cel3 HXB.out
              clear hba hcb hbb
              go_upto_region 16 with (fail)
              rw [← hW9, ← hXB]
              clear hW9 hXB z0 z1 q1 p0 p1 p2
              go_wp2_with fail
              refine (HTX.out _).mono ?_
              rintro e w6 ⟨rfl, hb6⟩
              replace HCB := Lib.hid (HCB.out.below hb6 HCB.out.lt)
              replace HBB := Lib.hid (HBB.out.trans (hb6.mono HBB.out.size))
              replace HXB := Lib.hid (HXB.out.below hb6 HXB.out.lt)
              clear hb6 x0 x1 x2
              obtain ⟨x0, x1, x2⟩ := cel3 HXB.out
              have hs1 : ¬ 9223372036854775807 < rt.length + 2 := by omega
              have hs2 : ¬ 9223372036854775807 < tx.length + (vt j).length + (rt.length + 2) := by omega
              go_upto_region 18 with (fail)
              clear x0 x1 x2 hs1 hs2
              go_loopw [3, 10] (fun sv i wc => ∃ m : Nat, m ≤ ns.length ∧ i = .int .i64 m ∧ sv = .string ⟨(tx ++ vt j ++ jt m).toArray⟩ ∧ Cells wc XB 65 [.string ⟨xn.toArray⟩, .string ⟨xd.toArray⟩, .slice A2 ns.length C2] ∧ Cells wc w.heap.size 31 [.slice AP s.primes.length cp, .slice (some ⟨b1, o1, Option.none⟩) s.voices.length cV] ∧ Below w.heap.size w wc) (fun _ i _ => ns.length - (intOf i).toNat)
              case atStart => exact ⟨0, Nat.zero_le _, rfl, by rw [HJ0.out]; exact congrArg Value.string (ba_ext (by simp)), HXB.out, HCB.out, HBB.out⟩
              case round =>
                clear HXB HCB HBB HJ0
                rename World => wc
                obtain ⟨m, hm, rfl, rfl, hxb, hcb, hbc⟩ := hrel
                have HXB := Lib.hid hxb
                have HCB := Lib.hid hcb
                have HBC := Lib.hid hbc
                obtain ⟨x0, x1, x2⟩ := cel3 hxb
                have hjm2 := HJM.out m hm
                by_cases hml : m < ns.length
                · obtain ⟨b3, o3, u, rfl, _, _, r0, hu⟩ := HNT.out.at_ hml
                  replace r0 := keep_cell r0 hbc
                  obtain ⟨t1, t2, t3, t4⟩ := txt_ok (HCK.out _ (List.getElem_mem hml))
                  have HNI : Box (jt (m + 1) = jt m ++ 32 :: ketT (ns[m]'hml)) := ⟨HJN.out m hml⟩
                  have HUR := Lib.hid (hu.lift hbc).row
                  obtain ⟨A4, c4, rfl, _⟩ := hu.shape
                  have HRX := Lib.hid (rowText_run _ (ns[m]'hml) wc (HS.out.below hbc (Nat.le_refl _)) HUR.out t1 t2 t3 (by omega) true)
                  rw [if_pos rfl] at HRX
                  have hkt : 91 :: rowTxt (ns[m]'hml) ++ [62] = ketT (ns[m]'hml) := rfl
                  rw [hkt] at HRX
                  have hkl : (ketT (ns[m]'hml)).length ≤ 1100 := by
                    unfold ketT
                    simp
                    omega
                  have hmi : (m : Int) < (ns.length : Int) := by omega
                  have hm0 : (0 : Int) ≤ (m : Int) := by omega
                  clear hxb hcb hbc hu t1 t2 t3 t4 hkt
                  generalize ketT (ns[m]'hml) = kt at *
                  generalize (ns[m]'hml).length = yl at *
                  go_wp2_with fail
                  refine HRX.out.mono ?_
                  rintro e w11 ⟨rfl, hb11⟩
                  replace HXB := Lib.hid (HXB.out.below hb11 HXB.out.lt)
                  replace HCB := Lib.hid (HCB.out.below hb11 HCB.out.lt)
                  replace HBC := Lib.hid (HBC.out.trans (hb11.mono HBC.out.size))
                  have hs1 : ¬ 9223372036854775807 < 1 + kt.length := by omega
                  have hs2 : ¬ 9223372036854775807 < tx.length + (vt j).length + (jt m).length + (1 + kt.length) := by omega
                  clear hb11 r0 x0 x1 x2
                  go_wp2_with fail
                  go_roundw
                  case rel => exact ⟨m + 1, by omega, by go_num, by rw [HNI.out]; exact congrArg Value.string (ba_ext (by simp)), HXB.out, HCB.out, HBC.out⟩
                  case measure => simp [intOf]; omega
                · obtain rfl : m = ns.length := by omega
                  rw [HJA.out]
                  have hs1 : ¬ 9223372036854775807 < tx.length + (vt j).length + jl.length + 1 := by omega
                  clear hxb hcb hbc
                  go_wp2_with fail
                  go_roundw
                  case rel => exact ⟨j + 1, by omega, by go_num, by rw [HNE.out]; exact congrArg Value.string (ba_ext (by simp)), HCB.out, HBC.out⟩
                  case measure => simp [intOf]; omega
            · obtain rfl : j = es.length := by omega
              clear hcb hbb
              go_wp2_with fail
              go_roundw
              case rel => exact ⟨k + 1, by omega, by go_num, by rw [HNV.out, HVA.out], HCB.out, HBB.out⟩
              case measure => simp [intOf]; omega
        · obtain rfl : k = s.voices.length := by omega
          rw [scTo_all]
          clear hcb hbw
          go_wp2_with fail
          go_ret
          exact ⟨rfl, HBW.out⟩

end Go.Proofs.YtphlodmdcmcjnaaGreatDoor
