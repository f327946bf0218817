/- TargetIntegers: the walk. -/
import Derived.Test.YtcfkclafpbaagaaGreatDoorIplG
import Derived.Test.YtcfkclafpbaagaaGreatDoorGTP
import Derived.Test.YtcfkclafpbaagaaGreatDoorClosedG
import Derived.BigQuiet
namespace Go.Proofs.YtcfkclafpbaagaaGreatDoor
open Go.RowKit Go.Lib Go.Shelf

theorem intR_le2 (p : List Int) {m : Nat} (h : (smTo p m).length ≤ 20) : (intR p m).length ≤ 400 := by
  have h1 := List.length_filter_le (posB p) (onceL p (prsR (rowsM p m)))
  have h2 := once_len p (prsR (rowsM p m))
  have h3 := prsTo_len (rowsM p m) (rowsM p m).length 0 (Nat.le_refl _) (Nat.zero_le _)
  rw [prsTo_all] at h3
  have h4 : (rowsM p m).length = (smTo p m).length := by unfold rowsM; rw [List.length_map]
  have h5 : (rowsM p m).length * (rowsM p m).length ≤ 20 * 20 := Nat.mul_le_mul (by omega) (by omega)
  unfold intR
  omega
theorem tSup {p : List Int} (hpe : primeErr p = 0) {m : Nat} (hm1 : 1 ≤ m) (hm : m ≤ 99) (hlen : (smTo p m).length ≤ 20) (pv : Value) (W : World) (hS : Std W) (hp : IsRow W W.heap.size pv p) :
    Calls Tryz.prog 34 #[pv, .int .i64 m] W fun e w' => ListPost ((intR p m).filter (supB p)) e w' ∧ Below W.heap.size W w' :=
  super_ok pv p m (intR p m) (supB p) W hS hp (fun x hx => ⟨smR_chk hpe (difR_sm hpe (smTo_99 hm) x (intR_sub x hx)), rfl⟩) (by have := intR_le2 p hlen; omega) (fun W2 hb => tInt hpe hm1 hm hlen pv W2 (hS.below hb (Nat.le_refl _)) (hp.lift hb))

set_option maxRecDepth 100000 in
set_option maxHeartbeats 8000000 in
theorem integers_walk (pv : Value) (p : List Int) (z : Int) (w : World) (hS : Std w) (hp : IsRow w w.heap.size pv p) (hz1 : -9223372036854775808 ≤ z) (hz2 : z ≤ 9223372036854775807) :
    Calls Tryz.prog 9 #[pv, .int .i64 z] w fun e w' => e = .returned (.bool true) ∧ Below w.heap.size w w' := by
  have HK := Lib.hid (fun W hW => known_any29 W hW)
  have HS := Lib.hid hS
  have HP := Lib.hid hp
  obtain ⟨AP, cp, rfl, _, hm, _⟩ := hp
  unfold maxLen at hm
  have hpl : p.length ≤ 9223372036854775807 := by omega
  clear hS hm
  by_cases h8 : 8 < p.length
  · have d8 : decide ((8 : Int) < (p.length : Int)) = true := by rw [decide_eq_true_iff]; omega
    clear h8
    go_enter Tryz.func9, Tryz.ntmps9
    go_wp2_with fail
    refine (HK.out w HS.out).mono ?_
    rintro e w1 ⟨rfl, hb1⟩
    go_wp2_with fail
    refine (HK.out w1 (HS.out.below hb1 (Nat.le_refl _))).mono ?_
    rintro e w2 ⟨rfl, hb2⟩
    go_wp2_with fail
    go_ret
    exact ⟨rfl, hb1.trans (hb2.mono hb1.size)⟩
  · have d8 : decide ((8 : Int) < (p.length : Int)) = false := by rw [decide_eq_false_iff_not]; omega
    clear h8
    by_cases hne : limErr p z = 0
    · have hpe : primeErr p = 0 := by
        unfold limErr at hne
        by_cases h : primeErr p = 0
        · exact h
        · rw [if_pos h] at hne; exact absurd hne h
      have hzr : 1 ≤ z ∧ z ≤ 99 := by
        unfold limErr at hne
        rw [if_neg (by simp [hpe])] at hne
        split at hne
        · cases hne
        · omega
      obtain ⟨m, rfl⟩ : ∃ m : Nat, z = (m : Int) := ⟨z.toNat, by omega⟩
      have hm1 : 1 ≤ m := by omega
      have hm9 : m ≤ 99 := by omega
      have dz1 : decide ((m : Int) < 1) = false := by rw [decide_eq_false_iff_not]; omega
      have dz2 : decide ((99 : Int) < (m : Int)) = false := by rw [decide_eq_false_iff_not]; omega
      have HPE := Lib.hid hpe
      have HM1 := Lib.hid hm1
      have HM9 := Lib.hid hm9
      clear hne hzr hz1 hz2
      by_cases h20 : 20 < (smTo p m).length
      · have h20r : 20 < (rowsM p m).length := by unfold rowsM; rw [List.length_map]; exact h20
        have HI := Lib.hid (fun W (hS : Std W) hp => integer_many (.slice AP p.length cp) p m W hS hp hpe hm1 hm9 h20r)
        have H20 := Lib.hid h20
        clear hpe hm1 hm9 h20 h20r
        go_enter Tryz.func9, Tryz.ntmps9
        go_wp2_with fail
        refine (HK.out w HS.out).mono ?_
        rintro e w1 ⟨rfl, hb1⟩
        go_wp2_with fail
        refine (HI.out w1 (HS.out.below hb1 (Nat.le_refl _)) (HP.out.lift hb1)).mono ?_
        rintro e w2 ⟨rfl, hb2⟩
        have hb2' := hb1.trans (hb2.mono hb1.size)
        have HB2 := Lib.hid hb2'
        have HSU := Lib.hid (super_err (.slice AP p.length cp) p (m : Int) 4 w2 (HP.out.lift hb2') rfl (fun W hb => HI.out W (HS.out.below (hb2'.trans (hb.mono hb2'.size)) (Nat.le_refl _)) (HP.out.lift (hb2'.trans (hb.mono hb2'.size)))))
        clear hb1 hb2 hb2' HK HI
        go_wp2_with fail
        refine HSU.out.mono ?_
        rintro e w3 ⟨rfl, hb3⟩
        have HB3 := Lib.hid (HB2.out.trans (hb3.mono HB2.out.size))
        have HPC := Lib.hid (primeCheck_any _ p w3.heap.size w3 (HP.out.lift HB3.out))
        rw [HPE.out] at HPC
        have HNU := Lib.hid (numbers_any29 _ p m false w3 (HS.out.below HB3.out (Nat.le_refl _)) (HP.out.lift HB3.out) HPE.out HM9.out)
        rw [nums_all] at HNU
        clear hb3 HSU HB2
        go_wp2_with fail
        refine HPC.out.mono ?_
        rintro e w4 ⟨rfl, rfl⟩
        go_wp2_with fail
        refine HNU.out.mono ?_
        rintro e w5 ⟨⟨v5, rfl, ho5⟩, hb5⟩
        obtain ⟨A5, c5, rfl⟩ := (IsRow.of_own ho5).shape
        have d20 : decide ((20 : Int) < ((smTo p m).length : Int)) = true := by rw [decide_eq_true_iff]; have := H20.out; omega
        have HB5 := Lib.hid (HB3.out.trans (hb5.mono HB3.out.size))
        clear hb5 ho5
        go_wp2_with fail
        go_ret
        exact ⟨rfl, HB5.out⟩
      · have hl20 : (smTo p m).length ≤ 20 := by omega
        have HI := Lib.hid (fun W (hS : Std W) hp => tInt hpe hm1 hm9 hl20 (.slice AP p.length cp) W hS hp)
        have HU := Lib.hid (fun W (hS : Std W) hp => tSup hpe hm1 hm9 hl20 (.slice AP p.length cp) W hS hp)
        have H20 := Lib.hid hl20
        have e1 := int_eq hpe hm9
        have e2 := sup_eq hpe hm9
        have HE1 := Lib.hid e1
        have HE2 := Lib.hid e2
        have hi4 := intR_le2 p hl20
        have HL1 : Box ((intR p m).length ≤ 1000000) := ⟨by omega⟩
        have HL2 : Box (((intR p m).filter (supB p)).length ≤ 1000000) := ⟨by have := List.length_filter_le (supB p) (intR p m); omega⟩
        have HN9 : Box (N99 (smTo p m)) := ⟨smTo_99 hm9⟩
        have HSM : Box (∀ x ∈ smTo p m, leftTo p x.toNat p.length = 1) := ⟨fun x hx => smooth_of hx⟩
        clear hpe hm1 hm9 h20 e1 e2 hi4
        generalize (intR p m).filter (supB p) = RS at *
        generalize intR p m = RI at *
        go_enter Tryz.func9, Tryz.ntmps9
        go_wp2_with fail
        refine (HK.out w HS.out).mono ?_
        rintro e w1 ⟨rfl, hb1⟩
        go_wp2_with fail
        refine (HI.out w1 (HS.out.below hb1 (Nat.le_refl _)) (HP.out.lift hb1)).mono ?_
        rintro e w2 ⟨⟨A2, c2, rfl, hr2⟩, hb2⟩
        have hb2' := hb1.trans (hb2.mono hb1.size)
        have HB2 := Lib.hid hb2'
        have HR2 := Lib.hid hr2
        clear hb1 hb2 hb2' HK HI hr2
        go_wp2_with fail
        refine (HU.out w2 (HS.out.below HB2.out (Nat.le_refl _)) (HP.out.lift HB2.out)).mono ?_
        rintro e w3 ⟨⟨A3, c3, rfl, hr3⟩, hb3⟩
        have HB3 := Lib.hid (HB2.out.trans (hb3.mono HB2.out.size))
        replace HR2 := Lib.hid (HR2.out.lift hb3)
        have HR3 := Lib.hid hr3
        have HPC := Lib.hid (primeCheck_any _ p w3.heap.size w3 (HP.out.lift HB3.out))
        rw [HPE.out] at HPC
        have HNU := Lib.hid (numbers_any29 _ p m false w3 (HS.out.below HB3.out (Nat.le_refl _)) (HP.out.lift HB3.out) HPE.out HM9.out)
        rw [nums_all] at HNU
        clear hb3 hr3 HU HB2
        generalize smTo p m = l at *
        go_wp2_with fail
        refine HPC.out.mono ?_
        rintro e w4 ⟨rfl, rfl⟩
        go_wp2_with fail
        refine HNU.out.mono ?_
        rintro e w5 ⟨⟨v5, rfl, ho5⟩, hb5⟩
        have HLV := Lib.hid (IsRow.of_own ho5)
        obtain ⟨A5, c5, rfl⟩ := (IsRow.of_own ho5).shape
        have d20 : decide ((20 : Int) < (l.length : Int)) = false := by rw [decide_eq_false_iff_not]; omega
        have HB5 := Lib.hid (HB3.out.trans (hb5.mono HB3.out.size))
        replace HR2 := Lib.hid (HR2.out.lift hb5)
        replace HR3 := Lib.hid (HR3.out.lift hb5)
        clear hb5 ho5 HPC HNU HB3
        by_cases h12 : 12 < l.length
        · have d12 : decide ((12 : Int) < (l.length : Int)) = true := by rw [decide_eq_true_iff]; omega
          clear h12
          go_wp2_with fail
          go_ret
          exact ⟨rfl, HB5.out⟩
        · have d12 : decide ((12 : Int) < (l.length : Int)) = false := by rw [decide_eq_false_iff_not]; omega
          have hl12 : l.length ≤ 12 := by omega
          clear h12 d20 hl20
          have HP5 := Lib.hid (HP.out.lift HB5.out)
          have HS5 := Lib.hid (HS.out.below HB5.out (Nat.le_refl _))
          have HP : Box True := ⟨trivial⟩
          go_wp2_with fail
          go_loopw [11, 12, 13] (fun oa os i wr => ∃ k : Nat, k ≤ l.length ∧ i = .int .i64 k ∧ Hid (LstV wr oa (onceL p (prI p l k))) ∧ Hid (LstV wr os (onceL p (suI p l k))) ∧ Below w5.heap.size w5 wr) (fun _ _ i _ => l.length - (intOf i).toNat)
          case atStart => exact ⟨0, Nat.zero_le _, rfl, Lib.hid (LstV.nil _), Lib.hid (LstV.nil _), Below.refl _ _⟩
          case round =>
            obtain ⟨i, hi, rfl, HLA, HLS, hbw⟩ := hrel
            by_cases hlt : i < l.length
            · have HB := Lib.hid hbw
              have HLA0 : Hid (LstV wr _ (onceL p (prI p l i ++ prK p l i 0))) := Lib.hid (by rw [show prK p l i 0 = [] from rfl, List.append_nil]; exact HLA.out)
              have HLS0 : Hid (LstV wr _ (onceL p (suI p l i ++ suK p l i 0))) := Lib.hid (by rw [show suK p l i 0 = [] from rfl, List.append_nil]; exact HLS.out)
              clear hbw HLA HLS
              go_wp2_with fail
              go_loopw [11, 12, 14] (fun oa os j wr => ∃ k : Nat, k ≤ i ∧ j = .int .i64 k ∧ Hid (LstV wr oa (onceL p (prI p l i ++ prK p l i k))) ∧ Hid (LstV wr os (onceL p (suI p l i ++ suK p l i k))) ∧ Below w5.heap.size w5 wr) (fun _ _ j _ => i - (intOf j).toNat)
              case atStart => exact ⟨0, Nat.zero_le _, rfl, HLA0, HLS0, HB.out⟩
              case round =>
                clear HB HLA0 HLS0
                obtain ⟨k, hk, rfl, HLA, HLS, hbw⟩ := hrel
                by_cases hltk : k < i
                · obtain ⟨A', c', e', _, _, hrl⟩ := HLV.out
                  injection e' with e1 _ e3
                  subst e1 e3
                  have hkl : k < l.length := by omega
                  obtain ⟨ad, rfl, _, hc1⟩ := (hrl.below hbw (Nat.le_refl _)).i_at hlt
                  obtain ⟨ad2, e4, _, hc2⟩ := (hrl.below hbw (Nat.le_refl _)).i_at hkl
                  cases e4
                  have hm1 := List.getElem_mem hlt
                  have hm2 := List.getElem_mem hkl
                  have hdf : dfN p l i k = subR (numR p l[i]) (numR p l[k]) := by unfold dfN; rw [List.getElem?_eq_getElem hlt, List.getElem?_eq_getElem hkl]; rfl
                  have hnb : nbB l i k = decide (l[i] = l[k] + 1) := by unfold nbB; rw [List.getElem?_eq_getElem hlt, List.getElem?_eq_getElem hkl]; rfl
                  rw [List.getElem?_eq_getElem hlt] at hc1
                  rw [List.getElem?_eq_getElem hkl] at hc2
                  simp only [Option.getD_some] at hc1 hc2
                  obtain ⟨z1, z2⟩ := HN9.out _ hm1
                  obtain ⟨y1, y2⟩ := HN9.out _ hm2
                  have z3 := HSM.out _ hm1
                  have y3 := HSM.out _ hm2
                  have hLA : (prI p l i ++ prK p l i k).length ≤ 1000 := by
                    rw [List.length_append, prK_len]
                    have h1 := prI_len p l (n := 12) i (by omega)
                    have h2 : i * 12 ≤ 12 * 12 := Nat.mul_le_mul_right _ (by omega)
                    omega
                  have hLS : (suI p l i ++ suK p l i k).length ≤ 1000 := by
                    rw [List.length_append]
                    have h0 := suK_len p l i k
                    have h1 := suI_len p l (n := 12) i (by omega)
                    have h2 : i * 12 ≤ 12 * 12 := Nat.mul_le_mul_right _ (by omega)
                    omega
                  have hchk : ∀ a b : Nat, a < l.length → b < l.length → chkAll p [dfN p l a b] = 0 := fun a b ha hb => by
                    unfold dfN
                    rw [List.getElem?_eq_getElem ha, List.getElem?_eq_getElem hb]
                    obtain ⟨q1, q2⟩ := num_sub HPE.out (HN9.out _ (List.getElem_mem ha)) (HN9.out _ (List.getElem_mem hb))
                    exact (chk_of_small HPE.out q1 (fun z hz => Nat.le_trans (q2 z hz) (by decide))).1
                  have hMA : ∀ y ∈ prI p l i ++ prK p l i k, chkAll p [y] = 0 := fun y hy => by
                    rcases List.mem_append.1 hy with h | h
                    · obtain ⟨a, b, h1, h2, rfl⟩ := (prI_mem _).1 h
                      exact hchk a b (by omega) (by omega)
                    · obtain ⟨j, h1, rfl⟩ := (prK_mem _).1 h
                      exact hchk i j hlt (by omega)
                  have hMS : ∀ y ∈ suI p l i ++ suK p l i k, chkAll p [y] = 0 := fun y hy => by
                    rcases List.mem_append.1 hy with h | h
                    · obtain ⟨a, b, h1, h2, _, rfl⟩ := (suI_mem _).1 h
                      exact hchk a b (by omega) (by omega)
                    · obtain ⟨j, h1, _, rfl⟩ := (suK_mem _).1 h
                      exact hchk i j hlt (by omega)
                  have hCX := hchk i k hlt hkl
                  have HNA := Lib.hid (show prI p l i ++ prK p l i (k + 1) = (prI p l i ++ prK p l i k) ++ [dfN p l i k] by rw [prK, List.append_assoc])
                  have HNS := Lib.hid (show suI p l i ++ suK p l i (k + 1) = if nbB l i k then (suI p l i ++ suK p l i k) ++ [dfN p l i k] else suI p l i ++ suK p l i k by rw [suK]; split <;> simp)
                  rw [hdf] at hCX HNA HNS
                  rw [hnb] at HNS
                  clear hrl hchk hm1 hm2 hdf hnb
                  generalize l[i]'hlt = u at *
                  generalize l[k]'hkl = v at *
                  obtain ⟨u, rfl⟩ : ∃ m : Nat, u = (m : Int) := ⟨u.toNat, by omega⟩
                  obtain ⟨v, rfl⟩ : ∃ m : Nat, v = (m : Int) := ⟨v.toNat, by omega⟩
                  rw [Int.toNat_natCast] at z3 y3
                  have HOF := Lib.hid (fun (W : World) (h : Below wr.heap.size wr W) => of_num29 (.slice AP p.length cp) p u v W (HS5.out.below (hbw.trans (h.mono hbw.size)) (Nat.le_refl _)) (HP5.out.lift (hbw.trans (h.mono hbw.size))) HPE.out (by omega) (by omega) z3 y3)
                  have HIA := Lib.hid (fun (W : World) (rv : Value) (h : Below wr.heap.size wr W) hrow => insert_onceV (.slice AP p.length cp) _ rv p (prI p l i ++ prK p l i k) (subR (numR p (u : Int)) (numR p (v : Int))) W (HS5.out.below (hbw.trans (h.mono hbw.size)) (Nat.le_refl _)) (HP5.out.lift (hbw.trans (h.mono hbw.size))) HPE.out (HLA.out.lift h) hrow hMA hCX hLA)
                  have HIS := Lib.hid (fun (W : World) (rv : Value) (h : Below wr.heap.size wr W) hrow => insert_onceV (.slice AP p.length cp) _ rv p (suI p l i ++ suK p l i k) (subR (numR p (u : Int)) (numR p (v : Int))) W (HS5.out.below (hbw.trans (h.mono hbw.size)) (Nat.le_refl _)) (HP5.out.lift (hbw.trans (h.mono hbw.size))) HPE.out (HLS.out.lift h) hrow hMS hCX hLS)
                  rw [← HNA.out] at HIA
                  have HB := Lib.hid hbw
                  have hi1 : (0 : Int) ≤ (i : Int) := by omega
                  have hi2 : (i : Int) < (l.length : Int) := by omega
                  have hk1 : (0 : Int) ≤ (k : Int) := by omega
                  have hk2 : (k : Int) < (l.length : Int) := by omega
                  have hki : (k : Int) < (i : Int) := by omega
                  have hw1 : IntKind.i64.wrap ((v : Int) + 1) = (v : Int) + 1 := IntWalk.i64_in _ (by omega)
                  by_cases hn : (u : Int) = (v : Int) + 1
                  · have hq : ((u : Int) == (v : Int) + 1) = true := by simpa using hn
                    rw [if_pos (by simpa using hn)] at HNS
                    rw [← HNS.out] at HIS
                    clear z1 z2 z3 y1 y2 y3 hbw hLA hLS hMA hMS hCX hn HLS HLA HNS HNA
                    generalize subR (numR p (u : Int)) (numR p (v : Int)) = x at *
                    have hB : Below wr.heap.size wr wr.drew := below_drew (Below.refl _ _)
                    go_wp2_with fail
                    go_region_held3 (fun w' => w'.cell? (ad.add i) = some (.int .i64 u) ∧ w'.cell? (ad.add k) = some (.int .i64 v))
                      (first | exact ⟨keep_cell hc1 hB, keep_cell hc2 hB⟩ | go_keep)
                      ((first
                        | (go_at_call 35; (with_reducible refine (HOF.out _ hB).mono ?_); rintro e w7 ⟨⟨rv, rfl, hrv⟩, hbk⟩; replace hB := hB.trans (hbk.mono hB.size); clear hbk)
                        | (go_at_call 16; (with_reducible refine (HIA.out _ _ hB hrv).mono ?_); rintro e w8 ⟨⟨va, rfl, vah⟩, hbk⟩; replace hB := hB.trans (hbk.mono hB.size); clear hbk)))
                    all_goals
                      have q1 := keep_cell hc1 hB
                      have q2 := keep_cell hc2 hB
                      have HA8 := Lib.hid vah
                      clear vah hrv
                      go_wp2_with fail
                      go_quiet (fail)
                      go_wp2_with fail
                      have hb9 := below_drewN hB nq
                      have HA9 := Lib.hid (HA8.out.lift (below_drewN (Below.refl _ _) nq))
                      generalize w8.drewN nq = W9 at *
                      clear hB
                      have HB9 := Lib.hid hb9
                      have hB : Below wr.heap.size wr W9.drew := below_drew hb9
                      have hD : Below W9.heap.size W9 W9.drew := below_drew (Below.refl _ _)
                      clear hb9 q1 q2 HA8
                      go_region_held3 (fun w' => w'.cell? (ad.add i) = some (.int .i64 u) ∧ w'.cell? (ad.add k) = some (.int .i64 v))
                        (first | exact ⟨keep_cell hc1 hB, keep_cell hc2 hB⟩ | go_keep)
                        ((first
                          | (go_at_call 35; (with_reducible refine (HOF.out _ hB).mono ?_); rintro e w7 ⟨⟨rv, rfl, hrv⟩, hbk⟩; replace hB := hB.trans (hbk.mono hB.size); replace hD := hD.trans (hbk.mono hD.size); clear hbk)
                          | (go_at_call 16; (with_reducible refine (HIS.out _ _ hB hrv).mono ?_); rintro e w8 ⟨⟨vs, rfl, vsh⟩, hbk⟩; replace hB := hB.trans (hbk.mono hB.size); replace hD := hD.trans (hbk.mono hD.size); clear hbk)))
                      all_goals
                        have HA10 := Lib.hid (HA9.out.lift hD)
                        go_wp2_with fail
                        go_roundw
                        case rel => exact ⟨k + 1, by omega, by go_num, HA10, Lib.hid vsh, HB.out.trans (hB.mono HB.out.size)⟩
                        case measure => simp [intOf]; omega
                  · have hq : ((u : Int) == (v : Int) + 1) = false := by simpa using hn
                    rw [if_neg (by simpa using hn)] at HNS
                    have HLS1 := HLS
                    rw [← HNS.out] at HLS1
                    clear z1 z2 z3 y1 y2 y3 hbw hLA hLS hMA hMS hCX hn HLS HLA HNS HNA HIS
                    generalize subR (numR p (u : Int)) (numR p (v : Int)) = x at *
                    have hB : Below wr.heap.size wr wr.drew := below_drew (Below.refl _ _)
                    go_wp2_with fail
                    go_region_held3 (fun w' => w'.cell? (ad.add i) = some (.int .i64 u) ∧ w'.cell? (ad.add k) = some (.int .i64 v))
                      (first | exact ⟨keep_cell hc1 hB, keep_cell hc2 hB⟩ | go_keep)
                      ((first
                        | (go_at_call 35; (with_reducible refine (HOF.out _ hB).mono ?_); rintro e w7 ⟨⟨rv, rfl, hrv⟩, hbk⟩; replace hB := hB.trans (hbk.mono hB.size); clear hbk)
                        | (go_at_call 16; (with_reducible refine (HIA.out _ _ hB hrv).mono ?_); rintro e w8 ⟨⟨va, rfl, vah⟩, hbk⟩; replace hB := hB.trans (hbk.mono hB.size); clear hbk)))
                    all_goals
                      have q1 := keep_cell hc1 hB
                      have q2 := keep_cell hc2 hB
                      have HA8 := Lib.hid vah
                      clear vah hrv
                      go_wp2_with fail
                      go_quiet (fail)
                      go_wp2_with fail
                      go_roundw
                      case rel => exact ⟨k + 1, by omega, by go_num, Lib.hid (HA8.out.lift (below_drewN (Below.refl _ _) nq)), Lib.hid (HLS1.out.lift (below_drewN hB nq)), HB.out.trans ((below_drewN hB nq).mono HB.out.size)⟩
                      case measure => simp [intOf]; omega
                · obtain rfl : k = i := by omega
                  have hkk : ¬ k < k := by omega
                  have HLA1 : Hid (LstV wr _ (onceL p (prI p l (k + 1)))) := HLA
                  have HLS1 : Hid (LstV wr _ (onceL p (suI p l (k + 1)))) := HLS
                  have HB := Lib.hid hbw
                  clear HLA HLS hbw
                  go_wp2_with fail
                  go_roundw
                  case rel => exact ⟨k + 1, by omega, by go_num, HLA1, HLS1, HB.out⟩
                  case measure => simp [intOf]; omega
            · obtain rfl : i = l.length := by omega
              rw [HE1.out] at HLA
              rw [HE2.out] at HLS
              obtain ⟨AA, ca, rfl, _, _, _, hra⟩ := HLA.out
              obtain ⟨AB, cb, rfl, _, _, _, hrb⟩ := HLS.out
              have S1 := Lib.hid (same_any29 A2 AA c2 ca RI RI wr (HR2.out.lift hbw) hra HL1.out)
              have S2 := Lib.hid (fun W (hb : Below wr.heap.size wr W) => same_any29 A3 AB c3 cb RS RS W ((HR3.out.lift hbw).lift hb) (hrb.lift hb) HL2.out)
              rw [rowsSame_refl] at S1
              simp only [rowsSame_refl] at S2
              have HB := Lib.hid (HB5.out.trans (hbw.mono HB5.out.size))
              clear hbw hra hrb HLA HLS
              go_wp2_with fail
              refine S1.out.mono ?_
              rintro e w6 ⟨rfl, hb6⟩
              go_wp2_with fail
              refine (S2.out w6 hb6).mono ?_
              rintro e w7 ⟨rfl, hb7⟩
              have hb67 := hb6.trans (hb7.mono hb6.size)
              go_wp2_with fail
              go_ret
              exact ⟨rfl, HB.out.trans (hb67.mono HB.out.size)⟩
    · have HNE : Hid ((limErr p z != 0) = true) := Lib.hid (by simpa using hne)
      have HI := Lib.hid (fun W hp => integer_err (.slice AP p.length cp) p z W hp HNE.out)
      have HPC := Lib.hid (fun W hp => primeCheck_any (.slice AP p.length cp) p W.heap.size W hp)
      by_cases h0 : primeErr p = 0
      · have hv : limErr p z = 3 := by
          unfold limErr at hne ⊢
          rw [if_neg (by simp [h0])] at hne ⊢
          split
          · rfl
          · rename_i h; rw [if_neg h] at hne; exact absurd rfl hne
        rw [hv] at HI HNE
        simp only [h0] at HPC
        by_cases h1 : z < 1
        · have d1 : decide (z < 1) = true := by rw [decide_eq_true_iff]; exact h1
          clear hne hv h0 h1
          go_enter Tryz.func9, Tryz.ntmps9
          go_wp2_with fail
          refine (HK.out w HS.out).mono ?_
          rintro e w1 ⟨rfl, hb1⟩
          go_wp2_with fail

          refine (HI.out w1 (HP.out.lift hb1)).mono ?_
          rintro e w2 ⟨rfl, hb2⟩
          have hb2' := hb1.trans (hb2.mono hb1.size)
          have HB2 := Lib.hid hb2'
          have HSU := Lib.hid (super_err (.slice AP p.length cp) p z 3 w2 (HP.out.lift hb2') HNE.out (fun W hb => HI.out W (HP.out.lift (hb2'.trans (hb.mono hb2'.size)))))
          clear hb1 hb2 hb2' HK HI
          go_wp2_with fail
          refine HSU.out.mono ?_
          rintro e w3 ⟨rfl, hb3⟩
          have HB3 := Lib.hid (HB2.out.trans (hb3.mono HB2.out.size))
          replace HPC := Lib.hid (HPC.out w3 (HP.out.lift HB3.out))
          clear hb3 HSU HB2
          go_wp2_with fail
          refine HPC.out.mono ?_
          rintro e w4 ⟨rfl, rfl⟩
          go_wp2_with fail
          go_ret
          exact ⟨rfl, HB3.out⟩
        · have d1 : decide (z < 1) = false := by rw [decide_eq_false_iff_not]; exact h1
          have d2 : decide (99 < z) = true := by
            rw [decide_eq_true_iff]
            unfold limErr at hne
            rw [if_neg (by simp [h0])] at hne
            by_cases h : 99 < z
            · exact h
            · rw [if_neg (by omega)] at hne; exact absurd rfl hne
          clear hne hv h0 h1
          go_enter Tryz.func9, Tryz.ntmps9
          go_wp2_with fail
          refine (HK.out w HS.out).mono ?_
          rintro e w1 ⟨rfl, hb1⟩
          go_wp2_with fail

          refine (HI.out w1 (HP.out.lift hb1)).mono ?_
          rintro e w2 ⟨rfl, hb2⟩
          have hb2' := hb1.trans (hb2.mono hb1.size)
          have HB2 := Lib.hid hb2'
          have HSU := Lib.hid (super_err (.slice AP p.length cp) p z 3 w2 (HP.out.lift hb2') HNE.out (fun W hb => HI.out W (HP.out.lift (hb2'.trans (hb.mono hb2'.size)))))
          clear hb1 hb2 hb2' HK HI
          go_wp2_with fail
          refine HSU.out.mono ?_
          rintro e w3 ⟨rfl, hb3⟩
          have HB3 := Lib.hid (HB2.out.trans (hb3.mono HB2.out.size))
          replace HPC := Lib.hid (HPC.out w3 (HP.out.lift HB3.out))
          clear hb3 HSU HB2
          go_wp2_with fail
          refine HPC.out.mono ?_
          rintro e w4 ⟨rfl, rfl⟩
          go_wp2_with fail
          go_ret
          exact ⟨rfl, HB3.out⟩
      · have hv : limErr p z = primeErr p := by unfold limErr; rw [if_pos h0]
        have hq : (primeErr p == 0) = false := by simpa using h0
        have hq2 : (primeErr p != 0) = true := by simpa using h0
        rw [hv] at HI HNE
        clear hne hv h0
        generalize primeErr p = q at *
        go_enter Tryz.func9, Tryz.ntmps9
        go_wp2_with fail
        refine (HK.out w HS.out).mono ?_
        rintro e w1 ⟨rfl, hb1⟩
        go_wp2_with fail

        refine (HI.out w1 (HP.out.lift hb1)).mono ?_
        rintro e w2 ⟨rfl, hb2⟩
        have hb2' := hb1.trans (hb2.mono hb1.size)
        have HB2 := Lib.hid hb2'
        have HSU := Lib.hid (super_err (.slice AP p.length cp) p z q w2 (HP.out.lift hb2') HNE.out (fun W hb => HI.out W (HP.out.lift (hb2'.trans (hb.mono hb2'.size)))))
        clear hb1 hb2 hb2' HK HI
        go_wp2_with fail
        refine HSU.out.mono ?_
        rintro e w3 ⟨rfl, hb3⟩
        have HB3 := Lib.hid (HB2.out.trans (hb3.mono HB2.out.size))
        replace HPC := Lib.hid (HPC.out w3 (HP.out.lift HB3.out))
        clear hb3 HSU HB2
        go_wp2_with fail
        refine HPC.out.mono ?_
        rintro e w4 ⟨rfl, rfl⟩
        go_wp2_with fail
        go_ret
        exact ⟨rfl, HB3.out⟩

end Go.Proofs.YtcfkclafpbaagaaGreatDoor
