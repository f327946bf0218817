/- target.once: the walk. The plain law of once: the list in order, each once. slices.SortFunc of no row; target.once's contract. target.Diamond of numbers over the list. -/
import Derived.Test.YtcfkclafpbaagaaGreatDoorGTH
import Derived.Maps.AppendAt
import Derived.Test.YtcfkclafpbaagaaGreatDoorShelf3
import Derived.Test.YtcfkclafpbaagaaGreatDoorGTG
namespace Go.Proofs.YtcfkclafpbaagaaGreatDoor
open Go.RowKit Go.Lib Go.Shelf

theorem MapS.mono {w : World} {b n n' : Nat} {S : List (List UInt8)} (h : MapS w b n S) (hn : n ≤ n') : MapS w b n' S := by
  obtain ⟨D, h1, h2⟩ := h
  exact ⟨D, h1.mono hn, h2⟩
theorem MapS.ne_own {w : World} {b n : Nat} {S : List (List UInt8)} (h : MapS w b n S) {base k s : Nat} {e : TypeId} {v : Value} {xs : List Value} (ho : w.ownsRow base e s v k xs) : v.ownBlock ≠ some b := by
  obtain ⟨D, ⟨es, cl, h1, _⟩, _⟩ := h
  rcases ho.2 with ⟨rfl, _⟩ | ⟨g, cap, cur, rfl, _, hg, _⟩
  · simp [Value.ownBlock]
  · intro e2
    have : g = b := by simpa [Value.ownBlock] using e2
    subst this
    rw [hg] at h1
    cases h1

/-- What once returns: the rows, each once, in an order. -/
def OncePost (p : List Int) (l : List (List Int)) (e : Ending) (w' : World) : Prop :=
  ∃ A c, ∃ l' : List (List Int), e = .returned (.tuple #[.slice A l'.length c, .int .i64 0]) ∧ RowsAt w' w'.heap.size A l' ∧ l'.Perm (ddTo l l.length) ∧ (∀ i j, i < j → j < l'.length → ltR p (l'[j]?.getD []) (l'[i]?.getD []) = false)

/-- Rows that lie below, one for one. -/
def SRows (w : World) (p : List Int) (vs : List Value) (ds : List (List Int)) : Prop := ∀ j, j < ds.length → ∃ t : SRow w p, vs[j]? = some t.1.1 ∧ ds[j]? = some t.1.2

theorem txt_ok {p x : List Int} (h : chkAll p [x] = 0) : rowChk x = 0 ∧ x.length ≤ 64 ∧ (∀ k, k < x.length → -1000000000 ≤ x[k]?.getD 0 ∧ x[k]?.getD 0 ≤ 1000000000) ∧ (rowTxt x).length ≤ 1000 := by
  have hr := right_of h
  have h6 := hr.six
  have hl := hr.len
  have hb : ∀ k, k < x.length → -1000000000 ≤ x[k]?.getD 0 ∧ x[k]?.getD 0 ≤ 1000000000 := fun k hk => by have := hr.ex k hk; omega
  refine ⟨?_, by omega, hb, rowTxt_len (by omega) hb⟩
  unfold rowChk
  rw [if_neg]
  rw [not_or]
  refine ⟨by omega, ?_⟩
  rw [Bool.not_eq_true, List.any_eq_false]
  intro z hz
  obtain ⟨k, hk, rfl⟩ := List.getElem_of_mem hz
  have := hb k hk
  rw [List.getElem?_eq_getElem hk] at this
  unfold fitsB
  simp at this ⊢
  omega

set_option maxRecDepth 100000 in
set_option maxHeartbeats 4000000 in
theorem once_walk (hnil : ∀ (A' : Option Addr) (c' : Nat) fv W, Calls Tryz.prog 111 #[.slice A' 0 c', fv] W fun e w' => e = .returned (.tuple #[]) ∧ W = w')
    (pv : Value) (p : List Int) (A : Option Addr) (c : Nat) (l : List (List Int)) (w : World) (hS : Std w) (hpv : IsRow w w.heap.size pv p) (hl : RowsAt w w.heap.size A l) (hc : ∀ x ∈ l, chkAll p [x] = 0) (hpe : primeErr p = 0) (hn : l.length ≤ 400) :
    Calls Tryz.prog 84 #[pv, .slice A l.length c] w fun e w' => OncePost p l e w' ∧ Below w.heap.size w w' := by
  obtain ⟨i0, hi0, hz0, hz1, hz2⟩ := info_parts Tryz.info_row
  have HNIL := Lib.hid hnil
  have HS := Lib.hid hS
  have HP := Lib.hid hpv
  have HPE := Lib.hid hpe
  obtain ⟨AP, cp, rfl⟩ := hpv.shape
  have HL : Box (RowsAt w w.heap.size A l) := ⟨hl⟩
  have HC : Box (∀ x ∈ l, chkAll p [x] = 0) := ⟨hc⟩
  have hb0 : Below w.heap.size w ((w.alloc (.cells #[.slice AP p.length cp] 25)).alloc (.map #[] 0)) := ((Below.refl _ _).alloc (Nat.le_refl _) _).alloc (by simp) _
  have hbx := (Cells.new w 25 #[.slice AP p.length cp]).alloc (.map #[] 0)
  have hmp := mapS_made (w.alloc (.cells #[.slice AP p.length cp] 25))
  rw [World.size_alloc] at hmp
  have HB0 := Lib.hid hb0
  have HBX := Lib.hid hbx
  have HMP := Lib.hid hmp
  have hmm := @run_makeMap Tryz.prog
  clear hnil hS hpv hl hc hpe hb0 hbx hmp
  go_enter Tryz.func84, Tryz.ntmps84
  go_wp2_with fail
  go_loopw [7, 16] (fun o i wr => ∃ (k : Nat) (vs : List Value), k ≤ l.length ∧ i = .int .i64 k ∧ wr.ownsRow w.heap.size 28 1 o (ddTo l k).length vs ∧ SRows w p vs (ddTo l k) ∧ MapS wr (w.heap.size + 1) k ((ddTo l k).map tx).reverse ∧ Cells wr w.heap.size 25 [.slice AP p.length cp] ∧ Below w.heap.size w wr) (fun _ i _ => l.length - (intOf i).toNat)
  case atStart => exact ⟨0, [], Nat.zero_le _, rfl, World.ownsRow_nil _ _ _ _, fun j hj => by simp [ddTo] at hj, HMP.out, HBX.out, HB0.out⟩
  case round =>
    clear HMP HBX HB0
    obtain ⟨k, vs, hk, rfl, hown, hsr, hmp, hbx, hbw⟩ := hrel
    have hdl := ddTo_len l k
    by_cases hlt : k < l.length
    · obtain ⟨ad, xv, rfl, hab, hca, hrow⟩ := HL.out.get k l[k] (List.getElem?_eq_getElem hlt)
      have hca' := (hbw.cell (p := ad.add k) (by rw [add_block]; exact hab)).trans hca
      have hck := HC.out _ (List.getElem_mem hlt)
      have hgx : l[k]?.getD [] = l[k] := by rw [List.getElem?_eq_getElem hlt]; rfl
      have hdd : ddTo l (k + 1) = if l[k] ∈ ddTo l k then ddTo l k else ddTo l k ++ [l[k]] := by rw [ddTo, hgx]
      have hlen : ∀ x ∈ l, x.length = p.length := fun x hx => (right_of (HC.out x hx)).len
      have hmem := dd_mem (k := k) hk hlen (x := l[k]) (hlen _ (List.getElem_mem hlt))
      have HDD := Lib.hid hdd
      obtain ⟨r1, r2, r3, r4⟩ := txt_ok hck
      have HTX := Lib.hid (rowText_run xv l[k] wr (HS.out.below hbw (Nat.le_refl _)) (hrow.lift hbw) r1 r2 r3 (by omega) true)
      rw [if_pos rfl] at HTX
      have HT : Box (∃ t : SRow w p, t.1.1 = xv ∧ t.1.2 = l[k]) := ⟨⟨⟨(xv, l[k]), hrow, hck⟩, rfl, rfl⟩⟩
      obtain ⟨AX, cx, rfl⟩ := hrow.shape
      have htl : (tx l[k]).length ≤ 2000 := by unfold tx; simp; omega
      have HTXE : Hid (91 :: rowTxt l[k] ++ [62] = tx l[k]) := Lib.hid rfl
      rw [HTXE.out] at HTX
      clear HTXE hgx hdd hlen r1 r2 r3 r4 hca hrow hck
      generalize l[k]'hlt = x at *
      generalize htxx : tx x = tt at *
      have HTT := Lib.hid htxx
      have HO := Lib.hid hown
      have HSR := Lib.hid hsr
      have HM := Lib.hid hmp
      have HX := Lib.hid hbx
      have HB := Lib.hid hbw
      clear hown hsr hmp hbx hbw htxx
      go_wp2_with fail
      refine HTX.out.mono ?_
      rintro e w2 ⟨rfl, hb2⟩
      have hM2 := HM.out.below hb2
      have HM2 := Lib.hid hM2
      have HO2 := Lib.hid (own_below HO.out hb2)
      have HX2 := Lib.hid (HX.out.below hb2 HX.out.lt)
      have HB2 := Lib.hid (HB.out.trans (hb2.mono HB.out.size))
      have hwk : w.heap.size ≤ w2.heap.size := HB2.out.size
      have hlk := hM2.look ⟨tt.toArray⟩ (by simp [ByteArray.size]; unfold maxLen; omega)
      clear hb2 hM2
      by_cases hin : x ∈ ddTo l k
      · have hlk2 : (Instr.lookup 146 (.map (some (w.heap.size + 1))) (.string ⟨tt.toArray⟩) false).run Tryz.prog w2 = .ok (.bool true) w2 := by
          rw [hlk]
          congr 2
          rw [decide_eq_true_eq]
          exact hmem.2 hin
        have HDE : Hid (ddTo l (k + 1) = ddTo l k) := Lib.hid (by rw [HDD.out, if_pos hin])
        clear hlk hmem hin HDD
        go_wp2_with fail
        go_roundw
        case rel => exact ⟨k + 1, vs, by omega, by go_num, by rw [HDE.out]; exact HO2.out, by rw [HDE.out]; exact HSR.out, by rw [HDE.out]; exact HM2.out.mono (by omega), HX2.out, HB2.out⟩
        case measure => simp [intOf]; omega
      · have hlk2 : (Instr.lookup 146 (.map (some (w.heap.size + 1))) (.string ⟨tt.toArray⟩) false).run Tryz.prog w2 = .ok (.bool false) w2 := by
          rw [hlk]
          congr 2
          rw [decide_eq_false_iff_not]
          exact fun h => hin (hmem.1 h)
        have HDE : Hid (ddTo l (k + 1) = ddTo l k ++ [x]) := Lib.hid (by rw [HDD.out, if_neg hin])
        obtain ⟨w3, hup, hM3, hg3⟩ := HM2.out.put (by unfold maxLen; omega) ⟨tt.toArray⟩ (by simp [ByteArray.size]; unfold maxLen; omega)
        have hO3 : w3.ownsRow w.heap.size 28 1 _ (ddTo l k).length vs := HO2.out.kept hg3 (Or.inr (HM2.out.ne_own HO2.out))
        have HO3 := Lib.hid hO3
        have HM3 := Lib.hid hM3
        have HX3 := Lib.hid (HX2.out.grown hg3 (by intro e; injection e with e; omega))
        have HB3 := Lib.hid (HB2.out.grown hg3 hwk (fun j hj => by cases hj; omega))
        have hwk3 : w.heap.size ≤ w3.heap.size := HB3.out.size
        clear hlk hmem hin HDD hM3 hg3 hO3
        go_wp2_with (at_builtin; refine wpList_append_own _ rfl _ _ _ rfl w.heap.size 28 i0 (.slice Option.none 0 0) 1 24 Tryz.underlying27 hi0 hz0 hz1 hz2 rfl (by decide) _ _ _ rfl (HO3.out.alloc _) ⟨w3.heap.size, 0, Option.none⟩ 1 1 [_] rfl rfl (cell_one_new _ _ _) (by intro u hu; simp at hu; subst hu; rfl) (by unfold maxLen; omega) (by omega) (by simp; omega) ?_; intro v9 w9 hown9 hg9 _)
        go_roundw
        case rel =>
          have hal := HO3.out.alloc (.cells #[.slice AX x.length cx] 28)
          have hma := HM3.out.alloc (.cells #[.slice AX x.length cx] 28)
          have hvl : vs.length = (ddTo l k).length := by have := HO3.out.1; omega
          refine ⟨k + 1, _, by omega, by go_num, by rw [HDE.out, List.length_append]; exact hown9, ?_, ?_, (HX3.out.alloc _).grown hg9 (own_ne_cells hal (HX3.out.alloc _) (by decide)), (HB3.out.alloc hwk3 _).grown hg9 (by simp; omega) (fun k hk => (HO3.out.lt k hk).1)⟩
          · rw [HDE.out]
            intro j hj
            by_cases hjl : j < (ddTo l k).length
            · obtain ⟨t, t1, t2⟩ := HSR.out j hjl
              exact ⟨t, by rw [List.getElem?_append_left (by omega)]; exact t1, by rw [List.getElem?_append_left hjl]; exact t2⟩
            · have hj2 : j = (ddTo l k).length := by rw [List.length_append] at hj; simp at hj; omega
              obtain ⟨t, t1, t2⟩ := HT.out
              refine ⟨t, ?_, ?_⟩
              · rw [List.getElem?_append_right (by omega), hvl, hj2, Nat.sub_self, t1]; rfl
              · rw [List.getElem?_append_right (by omega), hj2, Nat.sub_self, t2]; rfl
          · rw [HDE.out, List.map_append, List.reverse_append]
            show MapS _ _ _ (tx x :: _)
            rw [HTT.out]
            exact hma.kept hg9 (fun e => hma.ne_own hal e.symm)
        case measure => simp [intOf]; omega
    · obtain rfl : k = l.length := by omega
      have hds := ddTo_sub l l.length (Nat.le_refl _)
      have HOP : ∀ e w', Hid (OncePost p l e w' ↔ ∃ A c, ∃ l' : List (List Int), e = .returned (.tuple #[.slice A l'.length c, .int .i64 0]) ∧ RowsAt w' w'.heap.size A l' ∧ l'.Perm (ddTo l l.length) ∧ (∀ i j, i < j → j < l'.length → ltR p (l'[j]?.getD []) (l'[i]?.getD []) = false)) := fun _ _ => Lib.hid Iff.rfl
      generalize ddTo l l.length = ds at *
      have hbf := hbw.alloc hbw.size (.cells #[.int .i64 0] 34)
      have hbox := (hbx.alloc (.cells #[.int .i64 0] 34))
      have hfail := Cells.new wr 34 #[.int .i64 0]
      have hownf := hown.alloc (.cells #[.int .i64 0] 34)
      by_cases h0 : ds.length = 0
      · have hsh : ∃ A1 c1, u7 = .slice A1 0 c1 := by
          rcases hown.2 with ⟨rfl, _⟩ | ⟨g, cap, cur, rfl, _⟩
          · exact ⟨Option.none, 0, rfl⟩
          · exact ⟨some ⟨g, 0, Option.none⟩, cap, by rw [h0]⟩
        obtain ⟨A1, c1, rfl⟩ := hsh
        have HBF := Lib.hid hbf
        have q0 := hfail.cell 0
        have hnl := List.eq_nil_of_length_eq_zero h0
        subst hnl
        clear hown hsr hmp hbx hbw hbox hownf hds h0 hdl hfail
        go_wp2_with fail
        refine (HNIL.out _ _ _ _).mono ?_
        rintro e w5 ⟨rfl, hw5⟩
        have hw6 := hw5.symm
        clear hw5
        subst hw6
        go_wp2_with fail
        go_ret2
        exact ⟨(HOP _ _).out.2 ⟨A1, c1, [], rfl, ⟨fun k x hx => by simp at hx⟩, List.Perm.refl _, fun i j _ hj => by simp at hj⟩, HBF.out⟩
      · have hsh : ∃ g c1, u7 = .slice (some ⟨g, 0, Option.none⟩) ds.length c1 := by
          rcases hown.2 with ⟨_, h⟩ | ⟨g, cap, cur, rfl, _⟩
          · omega
          · exact ⟨g, cap, rfl⟩
        obtain ⟨g, c1, rfl⟩ := hsh
        have hgne : w.heap.size ≠ g := fun e => own_ne_cells hown hbx (by decide) (by rw [e]; rfl)
        have hgf : wr.heap.size ≠ g := by have := (hown.lt g rfl).2; omega
        have hgb := (hown.lt g rfl).1
        have HSO := Lib.hid (sortRows _ p (primed HPE.out) g c1 w.heap.size wr.heap.size vs ds HS.out hbf hgb HP.out (hbox.cell 0) hgne (by omega) (by omega) hownf hsr)
        have HF := Lib.hid hfail
        clear hown hsr hmp hbx hbw hbox hownf hfail hbf h0 hds
        go_wp2_with fail
        refine HSO.out.mono ?_
        rintro e w5 ⟨rfl, ⟨l', hl1, hl2, hl3, hl4⟩, hb5, hk5⟩
        have hf5 := hk5 _ _ _ hgf HF.out
        have q0 := hf5.cell 0
        simp at q0
        have HL1 := Lib.hid hl1
        have HL2 := Lib.hid hl2
        have HL3 := Lib.hid hl3
        have HL4 := Lib.hid hl4
        have HB5 := Lib.hid hb5
        clear hl1 hl2 hl3 hl4 hb5 hk5 hf5
        go_wp2_with fail
        go_ret2
        exact ⟨(HOP _ _).out.2 ⟨some ⟨g, 0, Option.none⟩, c1, l', by rw [HL1.out]; rfl, HL4.out, HL2.out, by rw [HL1.out]; exact HL3.out⟩, HB5.out⟩

end Go.Proofs.YtcfkclafpbaagaaGreatDoor

namespace Go.Proofs.YtcfkclafpbaagaaGreatDoor
open Go.RowKit Go.Lib

def SLt (p : List Int) (l : List (List Int)) : Prop := l.Pairwise fun a b => ltR p a b = true
theorem ltR_asym {p x y : List Int} (h : ltR p x y = true) : ltR p y x = false := by
  unfold ltR at *
  rw [decide_eq_true_eq] at h
  rw [decide_eq_false_iff_not]
  omega
theorem ltR_irr (p x : List Int) : ltR p x x = false := by unfold ltR; simp
theorem ltR_tot {p x y : List Int} (hP : Primed p) (hx : x.length = p.length) (hy : y.length = p.length) (hne : x ≠ y) : ltR p x y = true ∨ ltR p y x = true := by
  unfold ltR
  rw [decide_eq_true_eq, decide_eq_true_eq]
  by_cases h : num p x * den p y = num p y * den p x
  · exact absurd (cross_inj hP hx hy h) hne
  · omega
theorem ltR_trans {p x y z : List Int} (hP : Primed p) (hx : x.length = p.length) (hz : z.length = p.length) (h1 : ltR p x y = true) (h2 : ltR p y z = true) : ltR p x z = true := by
  unfold ltR at *
  rw [decide_eq_true_eq] at *
  exact cross_tr (den_pos hP hx) (den_pos hP hz) h1 h2

theorem slt_ext {p : List Int} : ∀ {l1 l2 : List (List Int)}, SLt p l1 → SLt p l2 → (∀ x, x ∈ l1 ↔ x ∈ l2) → l1 = l2
  | [], [], _, _, _ => rfl
  | [], b :: l2, _, _, h => by
    have h2 := (h b).2 List.mem_cons_self
    simp at h2
  | a :: l1, [], _, _, h => by
    have h2 := (h a).1 List.mem_cons_self
    simp at h2
  | a :: l1, b :: l2, h1, h2, h => by
    obtain ⟨k1, k2⟩ := List.pairwise_cons.1 h1
    obtain ⟨k3, k4⟩ := List.pairwise_cons.1 h2
    have hab : a = b := by
      rcases List.mem_cons.1 ((h a).1 List.mem_cons_self) with e | ha
      · exact e
      · rcases List.mem_cons.1 ((h b).2 List.mem_cons_self) with e | hb
        · exact e.symm
        · have e1 := ltR_asym (k3 a ha)
          rw [k1 b hb] at e1
          cases e1
    subst hab
    have hne : ∀ (l : List (List Int)), (∀ x ∈ l, ltR p a x = true) → a ∉ l := fun l hl hin => by
      have := hl a hin
      rw [ltR_irr] at this
      cases this
    rw [slt_ext k2 k4 (fun x => by
      constructor
      · intro hx
        rcases List.mem_cons.1 ((h x).1 (List.mem_cons_of_mem _ hx)) with e | h5
        · subst e; exact absurd hx (hne l1 k1)
        · exact h5
      · intro hx
        rcases List.mem_cons.1 ((h x).2 (List.mem_cons_of_mem _ hx)) with e | h5
        · subst e; exact absurd hx (hne l2 k3)
        · exact h5)]

theorem insR_mem {p : List Int} (hP : Primed p) {s : List (List Int)} {x : List Int} (hs : ∀ y ∈ s, y.length = p.length) (hx : x.length = p.length) (y : List Int) : y ∈ insR p s x ↔ y = x ∨ y ∈ s := by
  unfold insR
  rw [List.mem_append, List.mem_cons, List.mem_filter, List.mem_filter]
  constructor
  · rintro (⟨h, _⟩ | h | ⟨h, _⟩)
    · exact .inr h
    · exact .inl h
    · exact .inr h
  · rintro (h | h)
    · exact .inr (.inl h)
    · by_cases e : y = x
      · exact .inr (.inl e)
      · rcases ltR_tot hP (hs y h) hx e with h2 | h2
        · exact .inl ⟨h, h2⟩
        · exact .inr (.inr ⟨h, h2⟩)
theorem insR_slt {p : List Int} (hP : Primed p) {s : List (List Int)} {x : List Int} (hs : ∀ y ∈ s, y.length = p.length) (h : SLt p s) : SLt p (insR p s x) := by
  unfold insR SLt
  rw [List.pairwise_append]
  refine ⟨h.filter _, ?_, ?_⟩
  · rw [List.pairwise_cons]
    exact ⟨fun b hb => (List.mem_filter.1 hb).2, h.filter _⟩
  · intro a ha b hb
    obtain ⟨a1, a2⟩ := List.mem_filter.1 ha
    rcases List.mem_cons.1 hb with rfl | hb
    · exact a2
    · obtain ⟨b1, b2⟩ := List.mem_filter.1 hb
      exact ltR_trans hP (hs a a1) (hs b b1) a2 b2

theorem fold_ins {p : List Int} (hP : Primed p) : ∀ (l s : List (List Int)), (∀ y ∈ l, y.length = p.length) → (∀ y ∈ s, y.length = p.length) → SLt p s → SLt p (l.foldl (insR p) s) ∧ ∀ y, y ∈ l.foldl (insR p) s ↔ y ∈ s ∨ y ∈ l
  | [], s, _, _, h => ⟨h, fun y => by simp⟩
  | x :: l, s, hl, hs, h => by
    have hx := hl x List.mem_cons_self
    have hm := insR_mem hP hs hx
    obtain ⟨h1, h2⟩ := fold_ins hP l (insR p s x) (fun y hy => hl y (List.mem_cons_of_mem _ hy)) (fun y hy => by
      rcases (hm y).1 hy with rfl | h5
      · exact hx
      · exact hs y h5) (insR_slt hP hs h)
    refine ⟨h1, fun y => ?_⟩
    rw [List.foldl_cons, h2, hm, List.mem_cons]
    constructor
    · rintro ((h | h) | h)
      · exact .inr (.inl h)
      · exact .inl h
      · exact .inr (.inr h)
    · rintro (h | h | h)
      · exact .inl (.inr h)
      · exact .inl (.inl h)
      · exact .inr h
theorem onceL_slt {p : List Int} (hP : Primed p) {l : List (List Int)} (hl : ∀ y ∈ l, y.length = p.length) : SLt p (onceL p l) ∧ ∀ y, y ∈ onceL p l ↔ y ∈ l := by
  obtain ⟨h1, h2⟩ := fold_ins hP l [] hl (fun y h => by simp at h) List.Pairwise.nil
  exact ⟨h1, fun y => by rw [onceL, h2]; simp⟩

theorem ddTo_nodup (l : List (List Int)) : ∀ k, (ddTo l k).Nodup
  | 0 => List.nodup_nil
  | k + 1 => by
    unfold ddTo
    split
    · exact ddTo_nodup l k
    · rename_i h
      rw [List.nodup_append]
      refine ⟨ddTo_nodup l k, by simp, fun a ha b hb => ?_⟩
      rw [List.mem_singleton.1 hb]
      intro e
      exact h (e ▸ ha)
theorem ddTo_has (l : List (List Int)) : ∀ k, k ≤ l.length → ∀ j, (hj : j < k) → (hl : j < l.length) → l[j] ∈ ddTo l k
  | 0, _, j, hj, _ => by omega
  | k + 1, hk, j, hj, hl => by
    have e : l[k]?.getD [] = l[k] := by rw [List.getElem?_eq_getElem (by omega)]; rfl
    unfold ddTo
    rw [e]
    by_cases hjk : j = k
    · subst hjk
      split
      · rename_i h; exact h
      · exact List.mem_append_right _ (List.mem_singleton.2 rfl)
    · have h := ddTo_has l k (by omega) j (by omega) hl
      split
      · exact h
      · exact List.mem_append_left _ h
theorem ddTo_mem (l : List (List Int)) (x : List Int) : x ∈ ddTo l l.length ↔ x ∈ l := by
  constructor
  · exact ddTo_sub l l.length (Nat.le_refl _) x
  · intro h
    obtain ⟨j, hj, rfl⟩ := List.getElem_of_mem h
    exact ddTo_has l l.length (Nat.le_refl _) j hj hj

theorem once_plain {p : List Int} (hP : Primed p) {l l' : List (List Int)} (hl : ∀ y ∈ l, y.length = p.length) (hp : l'.Perm (ddTo l l.length)) (hs : ∀ i j, i < j → j < l'.length → ltR p (l'[j]?.getD []) (l'[i]?.getD []) = false) : l' = onceL p l := by
  obtain ⟨h1, h2⟩ := onceL_slt hP hl
  have hm : ∀ x, x ∈ l' ↔ x ∈ l := fun x => by rw [hp.mem_iff, ddTo_mem]
  refine slt_ext ?_ h1 (fun x => by rw [hm, h2])
  have hnd : l'.Nodup := hp.nodup_iff.2 (ddTo_nodup l l.length)
  unfold SLt
  rw [List.pairwise_iff_getElem]
  intro i j hi hj hij
  have h3 := hs i j hij hj
  rw [List.getElem?_eq_getElem hi, List.getElem?_eq_getElem hj] at h3
  have hne : l'[i] ≠ l'[j] := by
    have h4 := List.pairwise_iff_getElem.1 hnd i j hi hj hij
    exact h4
  rcases ltR_tot hP (hl _ ((hm _).1 (List.getElem_mem hi))) (hl _ ((hm _).1 (List.getElem_mem hj))) hne with h5 | h5
  · exact h5
  · rw [show ((some l'[j]).getD []) = l'[j] from rfl, show ((some l'[i]).getD []) = l'[i] from rfl, h5] at h3
    cases h3

end Go.Proofs.YtcfkclafpbaagaaGreatDoor

namespace Go.Proofs.YtcfkclafpbaagaaGreatDoor
open Go.RowKit Go.Lib

set_option maxHeartbeats 1000000 in
theorem ins_none (A : Option Addr) (c : Nat) (fv : Value) (w : World) :
    Calls Tryz.prog 167 #[.slice A 0 c, .int .i64 0, .int .i64 0, fv] w fun e w' => e = .returned (.tuple #[]) ∧ w' = w := by
  go_enter Tryz.func167, Tryz.ntmps167
  go_wp2
  refine wp_loop_rounds 1 ?_
  rw [rounds_succ]
  go_wp2
  go_end0
  exact ⟨rfl, rfl⟩

set_option maxHeartbeats 1000000 in
theorem pdq_none (A : Option Addr) (c : Nat) (lim : Int) (fv : Value) (w : World) :
    Calls Tryz.prog 136 #[.slice A 0 c, .int .i64 0, .int .i64 0, .int .i64 lim, fv] w fun e w' => e = .returned (.tuple #[]) ∧ w' = w := by
  have hi := fun W => ins_none A c fv W
  go_enter Tryz.func136, Tryz.ntmps136
  go_wp2
  refine wp_loop_rounds 1 ?_
  rw [rounds_succ]
  go_wp2_with (go_at_call 167; refine (hi _).mono ?_; rintro e w' ⟨rfl, rfl⟩)
  (try simp only [Exit.inBlock, Exit.then]); refine bodyPost_ret (results_none rfl _ _ _) rfl ?_
  exact ⟨rfl, rfl⟩

set_option maxHeartbeats 1000000 in
theorem sort_none (A : Option Addr) (c : Nat) (fv : Value) (w : World) :
    Calls Tryz.prog 111 #[.slice A 0 c, fv] w fun e w' => e = .returned (.tuple #[]) ∧ w = w' := by
  have hp := fun lim W => pdq_none A c lim fv W
  have hl := fun W => Tryz.bits_Len (0 : Int) W (by omega) (by omega)
  go_enter Tryz.func111, Tryz.ntmps111
  go_wp2_with (first | (go_at_call 137; refine (hl _).mono ?_; rintro e w' ⟨rfl, hw⟩; have hw2 := hw.symm; clear hw; subst hw2) | (go_at_call 136; refine (hp _ _).mono ?_; rintro e w' ⟨rfl, hw⟩; have hw2 := hw.symm; clear hw; subst hw2))
  go_end0
  exact ⟨rfl, rfl⟩

theorem once_any : OnceC := fun pv p A c l w hS hpv hc hpe hn hl => by
  refine (once_walk sort_none pv p A c l w hS hpv hl hc hpe hn).mono ?_
  rintro e w' ⟨⟨A', c', l', he, hr, h1, h2⟩, hb⟩
  obtain rfl := once_plain (primed hpe) (fun y hy => (right_of (hc y hy)).len) h1 h2
  exact ⟨⟨A', c', he, hr⟩, hb⟩

end Go.Proofs.YtcfkclafpbaagaaGreatDoor

namespace Go.Proofs.YtcfkclafpbaagaaGreatDoor
open Go.RowKit Go.Lib

/-- The rows of numbers. -/
def numR (p : List Int) (z : Int) : List Int := expsTo p z.toNat 1 p.length
def numsR (p : List Int) (l : List Int) : List (List Int) := l.map (numR p)
/-- Numbers over the list. -/
def NumsOk (p : List Int) (l : List Int) : Prop := ∀ z ∈ l, 1 ≤ z ∧ z ≤ 99 ∧ smB p z.toNat 1 = true

theorem two_filters {α : Type} (f g : α → Bool) (h : ∀ y, f y = true → g y = false) : ∀ s : List α, (s.filter f).length + (s.filter g).length ≤ s.length
  | [] => by simp
  | y :: s => by
    have ih := two_filters f g h s
    by_cases hf : f y = true
    · rw [List.filter_cons_of_pos hf, List.filter_cons_of_neg (by rw [h y hf]; simp)]
      simp only [List.length_cons]
      omega
    · rw [List.filter_cons_of_neg hf]
      by_cases hg : g y = true
      · rw [List.filter_cons_of_pos hg]
        simp only [List.length_cons]
        omega
      · rw [List.filter_cons_of_neg hg]
        simp only [List.length_cons]
        omega
theorem ins_len (p : List Int) (s : List (List Int)) (x : List Int) : (insR p s x).length ≤ s.length + 1 := by
  unfold insR
  rw [List.length_append, List.length_cons]
  have := two_filters (fun y => ltR p y x) (fun y => ltR p x y) (fun y h => ltR_asym h) s
  omega
theorem fold_len (p : List Int) : ∀ (l s : List (List Int)), (l.foldl (insR p) s).length ≤ s.length + l.length
  | [], s => by simp
  | x :: l, s => by
    have h1 := fold_len p l (insR p s x)
    have h2 := ins_len p s x
    simp only [List.foldl_cons, List.length_cons]
    omega
theorem once_len (p : List Int) (l : List (List Int)) : (onceL p l).length ≤ l.length := by
  have h := fold_len p l []
  unfold onceL
  simpa using h

set_option maxRecDepth 100000 in
set_option maxHeartbeats 4000000 in
theorem diamond_ok (pv lv : Value) (p l : List Int) (n : Nat) (r cc : List Int → List Int) (w : World) (hS : Std w) (hpv : IsRow w w.heap.size pv p) (hp : primeErr p = 0) (hlv : IsRow w w.heap.size lv l) (hn : l.length ≤ 20) (hok : NumsOk p l)
    (hprs : PrsOk p (numsR p l)) (hrds : RdsOk p n (onceL p (prsR (numsR p l))) r cc) :
    Calls Tryz.prog 28 #[pv, lv] w fun e w' => ListPost (onceL p (selsW p r cc (onceL p (prsR (numsR p l))) (onceL p (prsR (numsR p l))).length)) e w' ∧ Below w.heap.size w w' := by
  obtain ⟨i0, hi0, hz0, hz1, hz2⟩ := info_parts Tryz.info_row
  have HS := Lib.hid hS
  have HP := Lib.hid hpv
  have HPE := Lib.hid hp
  have HLV := Lib.hid hlv
  have HPC := Lib.hid (primeCheck_any pv p w.heap.size w hpv)
  rw [hp] at HPC
  obtain ⟨AP, cp, rfl⟩ := hpv.shape
  obtain ⟨AL, cl, rfl⟩ := hlv.shape
  have HOK : Box (NumsOk p l) := ⟨hok⟩
  have HPR : Box (PrsOk p (numsR p l)) := ⟨hprs⟩
  have HRD : Box (RdsOk p n (onceL p (prsR (numsR p l))) r cc) := ⟨hrds⟩
  clear hS hpv hp hlv hok hprs hrds
  go_enter Tryz.func28, Tryz.ntmps28
  go_wp2_with fail
  refine HPC.out.mono ?_
  rintro e w1 ⟨rfl, rfl⟩
  go_wp2_with fail
  go_loopw [7, 24] (fun o i wr => ∃ (k : Nat), k ≤ l.length ∧ i = .int .i64 k ∧ LRow wr w.heap.size o (numsR p (l.take k)) ∧ Below w.heap.size w wr) (fun _ i _ => l.length - (intOf i).toNat)
  case atStart => exact ⟨0, Nat.zero_le _, rfl, LRow.nil _ _, Below.refl _ _⟩
  case round =>
    obtain ⟨k, hk, rfl, hlr, hbw⟩ := hrel
    by_cases hlt : k < l.length
    · obtain ⟨A', c', e', _, _, hr⟩ := HLV.out
      injection e' with e1 _ e3
      subst e1 e3
      obtain ⟨ad, rfl, _, hca⟩ := (hr.below hbw (Nat.le_refl _)).i_at hlt
      clear hr
      obtain ⟨z1, z2, z3⟩ := HOK.out _ (List.getElem_mem hlt)
      have htk : numsR p (l.take (k + 1)) = numsR p (l.take k) ++ [numR p l[k]] := by
        unfold numsR
        rw [← List.take_append_getElem hlt, List.map_append]
        rfl
      have hge : l[k]?.getD 0 = l[k] := by rw [List.getElem?_eq_getElem hlt]; rfl
      rw [hge] at hca
      have hll : (numsR p (l.take k)).length = k := by unfold numsR; rw [List.length_map, List.length_take]; omega
      generalize l[k]'hlt = z at *
      obtain ⟨m, rfl⟩ : ∃ m : Nat, z = (m : Int) := ⟨z.toNat, by omega⟩
      rw [Int.toNat_natCast] at z3
      have HN := Lib.hid (tnum_any _ p m wr (HS.out.below hbw (Nat.le_refl _)) (HP.out.lift hbw) HPE.out (by omega) (by omega))
      have HZ3 := Lib.hid z3
      have HTK := Lib.hid htk
      have HLR := Lib.hid hlr
      have HB := Lib.hid hbw
      have HNE : Hid (numR p (m : Int) = expsTo p m 1 p.length) := Lib.hid (by unfold numR; rw [Int.toNat_natCast])
      clear z3 htk hlr hbw hge
      go_wp2_with fail
      refine HN.out.mono ?_
      rintro e w2 ⟨hpost, hb2⟩
      rcases hpost with ⟨_, v, rfl, hor⟩ | ⟨hs, _⟩
      case inr => rw [HZ3.out] at hs; cases hs
      rw [← HNE.out] at hor
      obtain ⟨vs, hown, hvs⟩ := HLR.out.below hb2
      have HB2 := Lib.hid (HB.out.trans (hb2.mono HB.out.size))
      have hwk : w.heap.size ≤ w2.heap.size := HB2.out.size
      have HO := Lib.hid hown
      have HVS := Lib.hid hvs
      have HOR := Lib.hid hor
      obtain ⟨A2, c2, rfl⟩ := hor.shape
      clear hb2 hown hvs hor
      go_wp2_with (at_builtin; refine wpList_append_own _ rfl _ _ _ rfl w.heap.size 28 i0 (.slice Option.none 0 0) 1 24 Tryz.underlying27 hi0 hz0 hz1 hz2 rfl (by decide) _ _ _ rfl (HO.out.alloc _) ⟨w2.heap.size, 0, Option.none⟩ 1 1 [_] rfl rfl (cell_one_new _ _ _) (by intro u hu; simp at hu; subst hu; rfl) (by unfold maxLen; omega) (by omega) (by simp; omega) ?_; intro v3 w3 hown3 hg3 _)
      go_roundw
      case rel =>
        refine ⟨k + 1, by omega, by go_num, ?_, (HB2.out.alloc hwk _).grown hg3 (by simp; omega) (fun k hk => (HO.out.lt k hk).1)⟩
        rw [HTK.out]
        refine LRow.snoc (HO.out.alloc _) (fun j z hz => ?_) (HOR.out.alloc _) hown3 hg3
        obtain ⟨u, h5, h6⟩ := HVS.out j z hz
        exact ⟨u, h5, h6.alloc _⟩
      case measure => simp [intOf]; omega
    · obtain rfl : k = l.length := by omega
      rw [List.take_length] at hlr
      obtain ⟨A1, c1, rfl⟩ := hlr.shape
      have HBT := Lib.hid (between_any once_any _ p A1 c1 (numsR p l) wr (HS.out.below hbw (Nat.le_refl _)) (HP.out.lift hbw) HPE.out hlr.rows.2 HPR.out)
      have HB := Lib.hid hbw
      clear hlr hbw
      go_wp2_with fail
      refine HBT.out.mono ?_
      rintro e w2 ⟨⟨A2, c2, rfl, hr2⟩, hb2⟩
      have HB2 := Lib.hid (HB.out.trans (hb2.mono HB.out.size))
      have hll : (onceL p (prsR (numsR p l))).length ≤ 400 := by
        have h1 := once_len p (prsR (numsR p l))
        have h2 := prsTo_len (numsR p l) (numsR p l).length 0 (Nat.le_refl _) (Nat.zero_le _)
        rw [prsTo_all] at h2
        have h3 : (numsR p l).length = l.length := by unfold numsR; rw [List.length_map]
        have h4 : (numsR p l).length * (numsR p l).length ≤ 20 * 20 := Nat.mul_le_mul (by omega) (by omega)
        omega
      have HRW := Lib.hid (reducedW once_any _ p n A2 c2 (onceL p (prsR (numsR p l))) r cc w2 (HS.out.below HB2.out (Nat.le_refl _)) (HP.out.lift HB2.out) hr2 HRD.out (by omega))
      clear hb2 hr2 hll
      go_wp2_with fail
      refine HRW.out.mono ?_
      rintro e w3 ⟨⟨A3, c3, rfl, hr3⟩, hb3⟩
      have HR3 := Lib.hid hr3
      have HB3 := Lib.hid (HB2.out.trans (hb3.mono HB2.out.size))
      clear hb3 hr3
      go_wp2_with fail
      go_ret2
      exact ⟨⟨A3, c3, rfl, HR3.out⟩, HB3.out⟩

end Go.Proofs.YtcfkclafpbaagaaGreatDoor
