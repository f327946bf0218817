/- score.Notes. schismalaw48.from, of rows that are notes of the score. -/
import Derived.Test.YtphlodmdcmcjnaaGreatDoorGXSCv
import Derived.Test.YtphlodmdcmcjnaaGreatDoorGXICv
import Derived.Test.YtphlodmdcmcjnaaGreatDoorGXLCv
import Derived.Test.YtphlodmdcmcjnaaGreatDoorGRMCv
namespace Go.Proofs.YtphlodmdcmcjnaaGreatDoor
open Go.RowKit Go.Lib

/-- A growing list of notes as slices.SortFunc wants it. -/
theorem NtO.rows {w : World} {base : Nat} {v : Value} {l : List (List Int)} (h : NtO w base v l) (h0 : 0 < l.length) : ∃ g c vs, v = .slice (some ⟨g, 0, Option.none⟩) l.length c ∧ w.ownsRow base 66 1 (.slice (some ⟨g, 0, Option.none⟩) l.length c) l.length vs ∧ NRows w vs l := by
  obtain ⟨css, h⟩ := h
  obtain ⟨g, c, rfl, _, _⟩ := h.own.form h0
  refine ⟨g, c, css.flatten, rfl, h.own, fun j hj => ?_⟩
  have hx := List.getElem?_eq_getElem hj
  have hjc : j < css.length := by rw [h.len]; exact hj
  have hcs := List.getElem?_eq_getElem hjc
  obtain ⟨v, e, hi⟩ := h.part j _ _ hx hcs
  have hf := flat_getS css 1 j 0 _ h.lens hcs (by decide)
  rw [e] at hf
  simp at hf
  exact ⟨⟨(v, l[j]), hi⟩, by simpa using hf, hx⟩
theorem nrows_at {w : World} {base g c : Nat} {vs : List Value} {l : List (List Int)} (ho : w.ownsRow base 66 1 (.slice (some ⟨g, 0, Option.none⟩) l.length c) l.length vs) (h : NRows w vs l) : NotesT w w.heap.size (some ⟨g, 0, Option.none⟩) l := ⟨fun k x hx => by
  obtain ⟨hk, e⟩ := List.getElem?_eq_some_iff.1 hx
  obtain ⟨v, y, h1, h2, h3⟩ := h.len hk
  rw [hx] at h2
  cases h2
  refine ⟨g, 0, [v], rfl, (ho.lt g rfl).2, TyB.of_own ho rfl, rfl, fun j hj => ?_, v, rfl, h3⟩
  obtain rfl : j = 0 := by omega
  rw [Nat.zero_add, Nat.mul_one, Nat.add_zero]
  exact (ho.cellAt k (by omega)).trans h1⟩
theorem sc_total {s : Sc} (h : ScOk s) : (ntsV s.voices).length ≤ 48000 := by
  have h1 : ∀ es : List Ev, (∀ x ∈ es, x.notes.length ≤ 12) → (ntsE es).length ≤ es.length * 12 := by
    intro es he
    induction es with
    | nil => simp [ntsE]
    | cons a r ih =>
      have e : ntsE (a :: r) = a.notes ++ ntsE r := rfl
      rw [e, List.length_append, List.length_cons]
      have := he a (by simp)
      have := ih (fun x hx => he x (by simp [hx]))
      omega
  have h2 : ∀ vs : List Vc, (∀ v ∈ vs, v.evs.length ≤ 500 ∧ ∀ x ∈ v.evs, x.notes.length ≤ 12) → (ntsV vs).length ≤ vs.length * 6000 := by
    intro vs hv
    induction vs with
    | nil => simp [ntsV]
    | cons a r ih =>
      have e : ntsV (a :: r) = ntsE a.evs ++ ntsV r := rfl
      rw [e, List.length_append, List.length_cons]
      have h3 := hv a (by simp)
      have := h1 a.evs h3.2
      have := ih (fun x hx => hv x (by simp [hx]))
      omega
  have h3 := h2 s.voices fun v hv => ⟨h.evs v hv, fun x hx => (h.ev v hv x hx).2.1⟩
  have := h.vcs
  omega

set_option maxRecDepth 100000 in
set_option maxHeartbeats 8000000 in
theorem scNotes_ok (pv vv : Value) (s : Sc) (w : World) (hS : Std w) (h : ScV w w.heap.size pv vv s) (hm : ScSm s) (he : scErr s = 0) :
    Calls Tryz.prog 37 #[.agg #[pv, vv]] w fun e w' => (∃ A c out, e = .returned (.tuple #[.slice A out.length c, .int .i64 0]) ∧ NotesT w' w'.heap.size A out ∧ NtsOk (ntsV s.voices) out ∧ out.length ≤ 48000) ∧ Below w.heap.size w w' := by
  obtain ⟨i0, hi0, hz0, hz1, hz2⟩ := info_parts Tryz.info_row
  have hba : Below w.heap.size w (w.alloc (.cells #[pv, vv] 31)) := (Below.refl _ _).alloc (Nat.le_refl _) _
  have HC := Lib.hid (scCheck_any pv vv s _ (hS.below hba (Nat.le_refl _)) (h.lift hba) hm)
  rw [he] at HC
  have HBA := Lib.hid hba
  have hok := ScOk.of he
  have HTO : Box ((ntsV s.voices).length ≤ 48000) := ⟨sc_total hok⟩
  have HV8 : Box (∀ k (hk : k < s.voices.length), (s.voices[k]'hk).evs.length ≤ 500 ∧ ∀ x ∈ (s.voices[k]'hk).evs, x.notes.length ≤ 12 ∧ ∀ y ∈ x.notes, y.length ≤ 1000) := ⟨fun k hk => ⟨hok.evs _ (List.getElem_mem hk), fun x hx => ⟨(hok.ev _ (List.getElem_mem hk) x hx).2.1, fun y hy => by
    have h1 := (hok.ev _ (List.getElem_mem hk) x hx).2.2 y hy
    have h2 := (right_of h1).len
    have h3 := primeErr_six hok.prm
    omega⟩⟩⟩
  have hv8 := hok.vcs
  obtain ⟨hp, AV, cV, rfl, hcv1, hcv2, hvt⟩ := h
  obtain ⟨AP, cp, rfl, _⟩ := hp.shape
  unfold maxLen at hcv2
  have HVT := Lib.hid hvt
  have HCB := Lib.hid (Cells.new w 31 #[.slice AP s.primes.length cp, .slice AV s.voices.length cV])
  obtain ⟨W0, hW0⟩ : ∃ W0, W0 = w.alloc (.cells #[.slice AP s.primes.length cp, .slice AV s.voices.length cV] 31) := ⟨_, rfl⟩
  rw [← hW0] at HC HBA HCB
  clear hS hp hm he hba hok hvt
  go_enter Tryz.func37, Tryz.ntmps37
  go_upto_region 1 with (fail)
  rw [← hW0]
  clear hW0
  obtain ⟨z0, z1⟩ := cel2 HCB.out
  go_wp2_with fail
  refine HC.out.mono ?_
  rintro e w1 ⟨rfl, hb1⟩
  have HB1 := Lib.hid (HBA.out.trans (hb1.mono HBA.out.size))
  have HCB1 := Lib.hid (HCB.out.below hb1 HCB.out.lt)
  clear hb1 z0 z1 HC HCB HBA
  obtain ⟨z0, z1⟩ := cel2 HCB1.out
  go_upto_region 6 with (fail)
  go_loopw [5, 20] (fun o i wr => ∃ k : Nat, k ≤ s.voices.length ∧ i = .int .i64 k ∧ NtO wr w.heap.size o (ntsV (s.voices.take k)) ∧ Below w.heap.size w wr) (fun _ i _ => s.voices.length - (intOf i).toNat)
  case atStart => exact ⟨0, Nat.zero_le _, rfl, NtO.nil _ _, HB1.out⟩
  case round =>
    obtain ⟨k, hk, rfl, ht, hbw⟩ := hrel
    have HB := Lib.hid hbw
    by_cases hlt : k < s.voices.length
    · obtain ⟨b1, o1, A1, C1, rfl, _, _, q0, q1, h1c, h1m, hev⟩ := HVT.out.at_ hlt
      replace q0 := keep_cell q0 hbw
      replace q1 := keep_cell q1 hbw
      obtain ⟨h500, hnt⟩ := HV8.out k hlt
      have HNT0 : Box (_) := ⟨hnt⟩
      have HNX : Box (ntsV (s.voices.take (k + 1)) = ntsV (s.voices.take k) ++ ntsE (s.voices[k]'hlt).evs) := ⟨ntsV_next hlt⟩
      have hle := ntsV_le s.voices (k + 1)
      rw [HNX.out, List.length_append] at hle
      have hto := HTO.out
      have HEV := Lib.hid hev
      have HT := Lib.hid ht
      have hkv : (k : Int) < (s.voices.length : Int) := by omega
      have hk0 : (0 : Int) ≤ (k : Int) := by omega
      clear hev ht hnt
      unfold maxLen at h1m
      generalize s.voices[k]'hlt = v at *
      obtain ⟨nm, es⟩ := v
      dsimp only at *
      generalize ntsV (s.voices.take k) = st at *
      obtain ⟨W2, hW2⟩ : ∃ W2, W2 = wr.alloc (.cells #[.string ⟨nm.toArray⟩, .slice A1 es.length C1] 52) := ⟨_, rfl⟩
      have hb2 : Below wr.heap.size wr W2 := by rw [hW2]; exact (Below.refl _ _).alloc (Nat.le_refl _) _
      have HT2 := Lib.hid (HT.out.below hb2)
      have HB2 := Lib.hid (HB.out.trans (hb2.mono HB.out.size))
      clear hb2
      go_upto_region 9 with (fail)
      rw [← hW2]
      clear hW2
      go_loopw [5, 27] (fun o i wx => ∃ j : Nat, j ≤ es.length ∧ i = .int .i64 j ∧ NtO wx w.heap.size o (st ++ ntsE (es.take j)) ∧ Below w.heap.size w wx) (fun _ i _ => es.length - (intOf i).toNat)
      case atStart => exact ⟨0, Nat.zero_le _, rfl, by rw [List.take_zero, show ntsE [] = [] from rfl, List.append_nil]; exact HT2.out, HB2.out⟩
      case round =>
        clear HT HT2 HB2
        rename World => wx
        obtain ⟨j, hj, rfl, htx, hbx⟩ := hrel
        by_cases hjl : j < es.length
        · obtain ⟨b2, o2, A2, C2, rfl, _, _, p0, p1, p2, h2c, h2m, hnt2⟩ := HEV.out.at_ hjl
          replace p0 := keep_cell p0 hbx
          replace p1 := keep_cell p1 hbx
          replace p2 := keep_cell p2 hbx
          have hn12 := (HNT0.out _ (List.getElem_mem hjl)).1
          have HN12 : Box (∀ y ∈ (es[j]'hjl).notes, y.length ≤ 1000) := ⟨(HNT0.out _ (List.getElem_mem hjl)).2⟩
          have HNE : Box (ntsE (es.take (j + 1)) = ntsE (es.take j) ++ (es[j]'hjl).notes) := ⟨ntsE_next hjl⟩
          have hle2 := ntsE_le es (j + 1)
          rw [HNE.out, List.length_append] at hle2
          have HNT := Lib.hid hnt2
          have HT := Lib.hid htx
          have HBX := Lib.hid hbx
          have hji : (j : Int) < (es.length : Int) := by omega
          have hj0 : (0 : Int) ≤ (j : Int) := by omega
          clear hnt2 htx hbx
          unfold maxLen at h2m
          generalize es[j]'hjl = x at *
          obtain ⟨tn, td, ns⟩ := x
          dsimp only at *
          generalize hsj : ntsE (es.take j) = sj at *
          clear hsj
          obtain ⟨W3, hW3⟩ : ∃ W3, W3 = wx.alloc (.cells #[.string ⟨tn.toArray⟩, .string ⟨td.toArray⟩, .slice A2 ns.length C2] 65) := ⟨_, rfl⟩
          have hb3 : Below wx.heap.size wx W3 := by rw [hW3]; exact (Below.refl _ _).alloc (Nat.le_refl _) _
          have HT3 := Lib.hid (HT.out.below hb3)
          have HB3 := Lib.hid (HBX.out.trans (hb3.mono HBX.out.size))
          clear hb3
          go_upto_region 12 with (fail)
          rw [← hW3]
          clear hW3
          go_loopw [5, 34] (fun o i wy => ∃ m : Nat, m ≤ ns.length ∧ i = .int .i64 m ∧ NtO wy w.heap.size o (st ++ sj ++ ns.take m) ∧ Below w.heap.size w wy) (fun _ i _ => ns.length - (intOf i).toNat)
          case atStart => exact ⟨0, Nat.zero_le _, rfl, by rw [List.take_zero, List.append_nil]; exact HT3.out, HB3.out⟩
          case round =>
            clear HT HT3 HB3
            rename World => wy
            obtain ⟨m, hm, rfl, hty, hby⟩ := hrel
            by_cases hml : m < ns.length
            · obtain ⟨b3, o3, u, rfl, _, _, r0, hir⟩ := HNT.out.at_ hml
              replace r0 := keep_cell r0 hby
              have hyl := HN12.out _ (List.getElem_mem hml)
              have HNN : Box (ns.take (m + 1) = ns.take m ++ [ns[m]'hml]) := ⟨List.take_succ_eq_append_getElem hml⟩
              have hmi : (m : Int) < (ns.length : Int) := by omega
              have hm0 : (0 : Int) ≤ (m : Int) := by omega
              obtain ⟨css, hlo⟩ := hty
              have hl9 : (st ++ sj ++ ns.take m).length ≤ 48000 := by
                rw [List.length_append, List.length_append, List.length_take]
                omega
              have HLO := Lib.hid hlo
              have HBY := Lib.hid hby
              have hwy : w.heap.size ≤ wy.heap.size := hby.size
              have hirl := hir.lift hby
              generalize ns[m]'hml = y at *
              have HCL := Lib.hid (clone_any u y wy hirl.row hyl)
              obtain ⟨AU, cu, rfl, _⟩ := hir.shape
              clear hir hirl hlo hby
              generalize hcur : st ++ sj ++ ns.take m = cur at *
              have HCUR : Box (st ++ sj ++ ns.take m = cur) := ⟨hcur⟩
              clear hcur
              go_wp2_with fail
              refine HCL.out.mono ?_
              rintro e w5 ⟨⟨A9, c9, rfl, ht9⟩, hb5⟩
              have HI9 := Lib.hid (IRow.of_trow ht9)
              have HLO5 := Lib.hid (HLO.out.below hb5 (fun _ _ _ h => NoteQ.keep (E := []) (KpT.of_below hb5) (by simp) hb5.size h))
              have HO := Lib.hid HLO5.out.own
              have HB5 := Lib.hid (HBY.out.trans (hb5.mono HBY.out.size))
              have h5s := hb5.size
              clear ht9 hb5 HLO HCL HBY
              go_wp2_with (at_builtin; refine wpList_append_own _ rfl _ _ _ rfl w.heap.size 66 i0 (.slice Option.none 0 0) 1 24 Tryz.underlying63 hi0 hz0 hz1 hz2 rfl (by decide) _ _ _ rfl (HO.out.alloc _) ⟨w5.heap.size, 0, Option.none⟩ 1 1 [.slice A9 y.length c9] rfl rfl (World.news_of_block (cs := #[.slice A9 y.length c9]) (t := 66) (fr := (0, 0)) (heap_alloc_new w5 _)) (by simp [Value.oneCell']) (by unfold maxLen; omega) (by omega) (by simp; omega) ?_; intro v9 w9 hown9 hg9 _)
              have hk9 : KpT [66] w5.heap.size w5 w9 := ((KpT.refl _ w5.heap.size w5).alloc (Nat.le_refl _) _).grown (HO.out.alloc _) (by simp) hg9
              have HTN : Hid (NtO w9 w.heap.size v9 (cur ++ [y])) := Lib.hid ⟨css ++ [[.slice A9 y.length c9]], HLO5.out.push (fun _ _ _ h => h.keep hk9 (by decide) hk9.size) ⟨_, rfl, HI9.out.keep hk9 (by decide) hk9.size⟩ rfl hown9⟩
              have HB9 := Lib.hid ((HB5.out.alloc HB5.out.size (.cells #[.slice A9 y.length c9] 66)).grown hg9 (by have := HB5.out.size; simp; omega) (fun i hi => by have h8 := (HO.out.lt i hi).1; omega))
              clear hown9 hg9 hk9 HO HLO5
              go_wp2_with fail
              go_roundw
              case rel => exact ⟨m + 1, by omega, by go_num, by rw [HNN.out, ← List.append_assoc, HCUR.out]; exact HTN.out, HB9.out⟩
              case measure => simp [intOf]; omega
            · obtain rfl : m = ns.length := by omega
              rw [List.take_of_length_le (Nat.le_refl _)] at hty
              go_wp2_with fail
              go_roundw
              case rel => exact ⟨j + 1, by omega, by go_num, by rw [HNE.out, ← List.append_assoc]; exact hty, hby⟩
              case measure => simp [intOf]; omega
        · obtain rfl : j = es.length := by omega
          rw [List.take_of_length_le (Nat.le_refl _)] at htx
          go_wp2_with fail
          go_roundw
          case rel => exact ⟨k + 1, by omega, by go_num, by rw [HNX.out]; exact htx, hbx⟩
          case measure => simp [intOf]; omega
    · obtain rfl : k = s.voices.length := by omega
      rw [List.take_of_length_le (Nat.le_refl _)] at ht
      have hto := HTO.out
      by_cases h0 : 0 < (ntsV s.voices).length
      · obtain ⟨g, c, vs, rfl, hown, hnr⟩ := ht.rows h0
        have HSO := Lib.hid (nsRows g c w.heap.size vs _ h0 (by omega) hown hnr)
        have HNR : Box (NRows wr vs (ntsV s.voices)) := ⟨hnr⟩
        clear hown hnr ht
        go_wp2_with fail
        refine HSO.out.mono ?_
        rintro e w5 ⟨rfl, ⟨l', vs', hl, hperm, hsrt, hown5, hnr5⟩, hbk5⟩
        have HOK := Lib.hid (nts_ok hperm (fun i j h1 h2 => Int.not_lt.2 (hsrt i j h1 h2)))
        rw [← hl] at hown5
        have HSC := Lib.hid (nsCompact g c w.heap.size vs' l' w5 hown5 (hnr5.bk hbk5) (by omega))
        have HB5 := Lib.hid (HB.out.trans hbk5.low)
        rw [hl] at HSC
        clear hown5 hnr5 hbk5 hperm hsrt
        go_wp2_with fail
        refine HSC.out.mono ?_
        rintro e w6 ⟨⟨vs6, rfl, hown6, hnr6⟩, hbk6⟩
        have hfin := nrows_at hown6 (hnr6.bk hbk6)
        have HF := Lib.hid hfin
        have HB6 := Lib.hid (HB5.out.trans hbk6.low)
        have hdl := HOK.out.len
        clear hown6 hnr6 hbk6 hfin
        go_wp2_with fail
        go_ret2
        exact ⟨⟨_, _, _, rfl, HF.out, HOK.out, by omega⟩, HB6.out⟩
      · have hnil : ntsV s.voices = [] := List.eq_nil_of_length_eq_zero (by omega)
        have HNIL : Box (ntsV s.voices = []) := ⟨hnil⟩
        obtain ⟨A, c, rfl, _⟩ := ht.shape
        rw [hnil, List.length_nil]
        clear ht hnil
        go_wp2_with fail
        refine (sort_none A c _ wr).mono ?_
        rintro e w5 ⟨rfl, rfl⟩
        go_wp2_with fail
        refine (compact_none A c _ wr).mono ?_
        rintro e w6 ⟨rfl, rfl⟩
        go_wp2_with fail
        go_ret2
        exact ⟨⟨A, c, [], rfl, LT.nil _ _ _, by rw [HNIL.out]; exact nts_nil, by simp⟩, HB.out⟩

end Go.Proofs.YtphlodmdcmcjnaaGreatDoor

namespace Go.Proofs.YtphlodmdcmcjnaaGreatDoor
open Go.RowKit Go.Lib

theorem found_next {x y : List Int} {cur : List (List Int)} : decide (x ∈ cur ++ [y]) = (decide (x ∈ cur) || sameB x y) := by
  rw [sameB_eq, ← Bool.decide_or, decide_eq_decide, List.mem_append, List.mem_singleton]

set_option maxRecDepth 100000 in
set_option maxHeartbeats 8000000 in
theorem from48_any (pv vv : Value) (A : Option Addr) (c : Nat) (s : Sc) (out : List (List Int)) (w : World) (h : ScV w w.heap.size pv vv s) (hr : NotesT w w.heap.size A out) (hmem : ∀ x ∈ out, x ∈ ntsV s.voices) (hol : out.length ≤ 1000000) (hv8 : s.voices.length ≤ 1000000) (he5 : ∀ v ∈ s.voices, v.evs.length ≤ 1000000 ∧ ∀ x ∈ v.evs, x.notes.length ≤ 1000000) :
    Calls Tryz.prog 40 #[.agg #[pv, vv], .slice A out.length c] w fun e w' => e = .returned (.bool true) ∧ Below w.heap.size w w' := by
  obtain ⟨hp, AV, cV, rfl, hcv1, hcv2, hvt⟩ := h
  obtain ⟨AP, cp, rfl, _⟩ := hp.shape
  unfold maxLen at hcv2
  have HVT := Lib.hid hvt
  have HOT := Lib.hid hr
  have HV8 : Box (∀ k (hk : k < s.voices.length), (s.voices[k]'hk).evs.length ≤ 1000000 ∧ ∀ x ∈ (s.voices[k]'hk).evs, x.notes.length ≤ 1000000) := ⟨fun k hk => he5 _ (List.getElem_mem hk)⟩
  have HMM : Box (∀ x ∈ out, x ∈ ntsV s.voices) := ⟨hmem⟩
  have HCB := Lib.hid (Cells.new w 31 #[.slice AP s.primes.length cp, .slice AV s.voices.length cV])
  obtain ⟨W0, hW0⟩ : ∃ W0, W0 = w.alloc (.cells #[.slice AP s.primes.length cp, .slice AV s.voices.length cV] 31) := ⟨_, rfl⟩
  have hba : Below w.heap.size w W0 := by rw [hW0]; exact (Below.refl _ _).alloc (Nat.le_refl _) _
  have HBA := Lib.hid hba
  rw [← hW0] at HCB
  clear hp hvt hr hmem he5 hba
  go_enter Tryz.func40, Tryz.ntmps40
  go_upto_region 2 with (fail)
  rw [← hW0]
  clear hW0
  go_loopw [5] (fun i wr => ∃ q : Nat, q ≤ out.length ∧ i = .int .i64 q ∧ Cells wr w.heap.size 31 [.slice AP s.primes.length cp, .slice AV s.voices.length cV] ∧ Below w.heap.size w wr) (fun i _ => out.length - (intOf i).toNat)
  case atStart => exact ⟨0, Nat.zero_le _, rfl, HCB.out, HBA.out⟩
  case round =>
    clear HCB HBA
    obtain ⟨q, hq, rfl, hcb, hbw⟩ := hrel
    by_cases hql : q < out.length
    · obtain ⟨bq, oq, uq, rfl, _, _, qc, hqr⟩ := HOT.out.at_ hql
      have HXM := HMM.out _ (List.getElem_mem hql)
      have HQR := Lib.hid hqr
      have hqi : (q : Int) < (out.length : Int) := by omega
      have hq0 : (0 : Int) ≤ (q : Int) := by omega
      have HQC := Lib.hid qc
      have HCB := Lib.hid hcb
      have HBW := Lib.hid hbw
      clear hqr qc hcb hbw
      generalize out[q]'hql = x at *
      obtain ⟨AX, cx, rfl, _⟩ := HQR.out.shape
      have HD0 : Box (false = decide (x ∈ ntsV (s.voices.take 0))) := ⟨by rw [List.take_zero]; simp [ntsV]⟩
      have HDN : Box (decide (x ∈ ntsV s.voices) = true) := ⟨decide_eq_true HXM⟩
      clear HXM
      go_upto_region 6 with (fail)
      go_loopw [6, 7] (fun f i wa => ∃ k : Nat, k ≤ s.voices.length ∧ i = .int .i64 k ∧ f = .bool (decide (x ∈ ntsV (s.voices.take k))) ∧ Cells wa w.heap.size 31 [.slice AP s.primes.length cp, .slice AV s.voices.length cV] ∧ Below w.heap.size w wa) (fun _ i _ => s.voices.length - (intOf i).toNat)
      case atStart => exact ⟨0, Nat.zero_le _, rfl, congrArg Value.bool HD0.out, HCB.out, HBW.out⟩
      case round =>
        clear HCB HBW HD0
        rename World => wa
        obtain ⟨k, hk, rfl, rfl, hcb, hba⟩ := hrel
        obtain ⟨z0, z1⟩ := cel2 hcb
        by_cases hkl : k < s.voices.length
        · obtain ⟨b1, o1, A1, C1, rfl, _, _, q0, q1, h1c, h1m, hev⟩ := HVT.out.at_ hkl
          replace q0 := keep_cell q0 hba
          replace q1 := keep_cell q1 hba
          obtain ⟨h500, hnt⟩ := HV8.out k hkl
          have HNT0 : Box (_) := ⟨hnt⟩
          have HNX : Box (ntsV (s.voices.take (k + 1)) = ntsV (s.voices.take k) ++ ntsE (s.voices[k]'hkl).evs) := ⟨ntsV_next hkl⟩
          have HEV := Lib.hid hev
          have HCB := Lib.hid hcb
          have HBW := Lib.hid hba
          have hkv : (k : Int) < (s.voices.length : Int) := by omega
          have hk0 : (0 : Int) ≤ (k : Int) := by omega
          clear hev hnt hcb hba
          unfold maxLen at h1m
          generalize s.voices[k]'hkl = v at *
          obtain ⟨nm, es⟩ := v
          dsimp only at *
          generalize ntsV (s.voices.take k) = st at *
          have HD0 : Box (decide (x ∈ st) = decide (x ∈ st ++ ntsE (es.take 0))) := ⟨by rw [List.take_zero, show ntsE [] = [] from rfl, List.append_nil]⟩
          go_upto_region 9 with (fail)
          go_loopw [6, 32] (fun f i wb => ∃ j : Nat, j ≤ es.length ∧ i = .int .i64 j ∧ f = .bool (decide (x ∈ st ++ ntsE (es.take j))) ∧ Cells wb w.heap.size 31 [.slice AP s.primes.length cp, .slice (some ⟨b1, o1, Option.none⟩) s.voices.length cV] ∧ Below w.heap.size w wb) (fun _ i _ => es.length - (intOf i).toNat)
          case atStart => exact ⟨0, Nat.zero_le _, rfl, congrArg Value.bool HD0.out, HCB.out, HBW.out⟩
          case round =>
            clear HCB HBW HD0 q0 q1 z0 z1
            rename World => wb
            obtain ⟨j, hj, rfl, rfl, hcb, hbb⟩ := hrel
            by_cases hjl : j < es.length
            · obtain ⟨b2, o2, A2, C2, rfl, _, _, p0, p1, p2, h2c, h2m, hnt2⟩ := HEV.out.at_ hjl
              replace p0 := keep_cell p0 hbb
              replace p1 := keep_cell p1 hbb
              replace p2 := keep_cell p2 hbb
              have hn12 := HNT0.out _ (List.getElem_mem hjl)
              have HNE : Box (ntsE (es.take (j + 1)) = ntsE (es.take j) ++ (es[j]'hjl).notes) := ⟨ntsE_next hjl⟩
              have HNT := Lib.hid hnt2
              have HBX := Lib.hid hbb
              have hji : (j : Int) < (es.length : Int) := by omega
              have hj0 : (0 : Int) ≤ (j : Int) := by omega
              unfold maxLen at h2m
              generalize es[j]'hjl = y at *
              obtain ⟨tn, td, ns⟩ := y
              dsimp only at *
              generalize hsj : ntsE (es.take j) = sj at *
              have HD0 : Box (decide (x ∈ st ++ sj) = decide (x ∈ st ++ sj ++ ns.take 0)) := ⟨by rw [List.take_zero, List.append_nil]⟩
              obtain ⟨W3, hW3⟩ : ∃ W3, W3 = wb.alloc (.cells #[.string ⟨tn.toArray⟩, .string ⟨td.toArray⟩, .slice A2 ns.length C2] 65) := ⟨_, rfl⟩
              have hb3 : Below wb.heap.size wb W3 := by rw [hW3]; exact (Below.refl _ _).alloc (Nat.le_refl _) _
              have HCB := Lib.hid (hcb.below hb3 hcb.lt)
              have HB3 := Lib.hid (hbb.trans (hb3.mono hbb.size))
              clear hb3 hnt2 hbb hcb hsj
              go_upto_region 12 with (fail)
              rw [← hW3]
              clear hW3
              go_loopw [6, 39] (fun f i wc => ∃ m : Nat, m ≤ ns.length ∧ i = .int .i64 m ∧ f = .bool (decide (x ∈ st ++ sj ++ ns.take m)) ∧ Cells wc w.heap.size 31 [.slice AP s.primes.length cp, .slice (some ⟨b1, o1, Option.none⟩) s.voices.length cV] ∧ Below w.heap.size w wc) (fun _ i _ => ns.length - (intOf i).toNat)
              case atStart => exact ⟨0, Nat.zero_le _, rfl, congrArg Value.bool HD0.out, HCB.out, HB3.out⟩
              case round =>
                clear HCB HB3 HD0 p0 p1 p2
                rename World => wc
                obtain ⟨m, hm, rfl, rfl, hcb, hbc⟩ := hrel
                by_cases hml : m < ns.length
                · obtain ⟨b3, o3, u, rfl, _, _, r0, hir⟩ := HNT.out.at_ hml
                  replace r0 := keep_cell r0 hbc
                  have xc := keep_cell HQC.out hbc
                  have HNN : Box (decide (x ∈ st ++ sj ++ ns.take (m + 1)) = (decide (x ∈ st ++ sj ++ ns.take m) || sameB x (ns[m]'hml))) := ⟨by rw [List.take_succ_eq_append_getElem hml, ← List.append_assoc, found_next]⟩
                  have hmi : (m : Int) < (ns.length : Int) := by omega
                  have hm0 : (0 : Int) ≤ (m : Int) := by omega
                  have HSM := Lib.hid (same_any _ u x (ns[m]'hml) wc ((HQR.out.lift hbc).row) ((hir.lift hbc).row))
                  obtain ⟨AU, cu, rfl, _⟩ := hir.shape
                  have HCB := Lib.hid hcb
                  have HBC := Lib.hid hbc
                  clear hir hcb hbc
                  generalize sameB x (ns[m]'hml) = sb at *
                  generalize ns[m]'hml = y at *
                  generalize decide (x ∈ st ++ sj ++ ns.take m) = fb at *
                  cases fb with
                  | true =>
                    clear HSM
                    go_wp2_with fail
                    go_roundw
                    case rel => exact ⟨m + 1, by omega, by go_num, by rw [HNN.out]; rfl, HCB.out, HBC.out⟩
                    case measure => simp [intOf]; omega
                  | false =>
                    go_wp2_with fail
                    refine HSM.out.mono ?_
                    rintro e w7 ⟨rfl, hb7⟩
                    have HCB7 := Lib.hid (HCB.out.below hb7 HCB.out.lt)
                    have HBC7 := Lib.hid (HBC.out.trans (hb7.mono HBC.out.size))
                    clear hb7
                    go_wp2_with fail
                    go_roundw
                    case rel => exact ⟨m + 1, by omega, by go_num, by rw [HNN.out]; rfl, HCB7.out, HBC7.out⟩
                    case measure => simp [intOf]; omega
                · obtain rfl : m = ns.length := by omega
                  rw [List.take_of_length_le (Nat.le_refl _)]
                  go_wp2_with fail
                  go_roundw
                  case rel => exact ⟨j + 1, by omega, by go_num, by rw [HNE.out, ← List.append_assoc], hcb, hbc⟩
                  case measure => simp [intOf]; omega
            · obtain rfl : j = es.length := by omega
              rw [List.take_of_length_le (Nat.le_refl _)]
              go_wp2_with fail
              go_roundw
              case rel => exact ⟨k + 1, by omega, by go_num, by rw [HNX.out], hcb, hbb⟩
              case measure => simp [intOf]; omega
        · obtain rfl : k = s.voices.length := by omega
          rw [List.take_of_length_le (Nat.le_refl _), HDN.out]
          go_wp2_with fail
          go_roundw
          case rel => exact ⟨q + 1, by omega, by go_num, hcb, hba⟩
          case measure => simp [intOf]; omega
    · obtain rfl : q = out.length := by omega
      go_wp2_with fail
      go_ret
      exact ⟨rfl, hbw⟩

end Go.Proofs.YtphlodmdcmcjnaaGreatDoor
