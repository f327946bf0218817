/- schismalaw47.same: comparing tokens with their places or without. -/
import Derived.Test.YtagfnnongamneaaGreatDoorGN
import Derived.Test.YtagfnnongamneaaGreatDoorGO
namespace Go.Proofs.YtagfnnongamneaaGreatDoor
open Go.RowKit Go.Lib

def tokSame (pl : Bool) (a b : Tok) : Bool := tokEq a b && (!pl || (a.line == b.line && a.col == b.col))
def toksSame (pl : Bool) : List Tok → List Tok → Bool
  | [], [] => true
  | a :: l, b :: m => tokSame pl a b && toksSame pl l m
  | _, _ => false
theorem toksSame_len (pl : Bool) : ∀ l m, l.length ≠ m.length → toksSame pl l m = false
  | [], [], h => absurd rfl h
  | [], _ :: _, _ => rfl
  | _ :: _, [], _ => rfl
  | a :: l, b :: m, h => by rw [toksSame, toksSame_len pl l m (by simpa using h), Bool.and_false]
theorem toksSame_drop {pl : Bool} {l m : List Tok} {k : Nat} (h1 : k < l.length) (h2 : k < m.length) : toksSame pl (l.drop k) (m.drop k) = (tokSame pl (l[k]'h1) (m[k]'h2) && toksSame pl (l.drop (k + 1)) (m.drop (k + 1))) := by
  rw [List.drop_eq_getElem_cons h1, List.drop_eq_getElem_cons h2, toksSame]

set_option maxRecDepth 100000 in
set_option maxHeartbeats 4000000 in
theorem same1_any (a b : Tok) (ra rb : Value) (pl : Bool) (g : Nat) (w : World) (ha : IsRow w w.heap.size ra a.row) (hb : IsRow w w.heap.size rb b.row) (hg : w.cell? ⟨g, 0, Option.none⟩ = some (.bool pl)) :
    Calls Tryz.prog 50 #[.agg #[.int .i64 a.kind, .string ⟨a.text.toArray⟩, .string ⟨a.num.toArray⟩, .string ⟨a.den.toArray⟩, ra, .int .i64 a.line, .int .i64 a.col], .agg #[.int .i64 b.kind, .string ⟨b.text.toArray⟩, .string ⟨b.num.toArray⟩, .string ⟨b.den.toArray⟩, rb, .int .i64 b.line, .int .i64 b.col], .pointer (some ⟨g, 0, Option.none⟩)] w fun e w' => e = .returned (.bool (tokSame pl a b)) ∧ Below w.heap.size w w' := by
  have HE : Box (tokSame pl a b = (tokEq a b && (!pl || (a.line == b.line && a.col == b.col)))) := ⟨rfl⟩
  have HQ := Lib.hid (fun W h1 h2 => lawEqual_any a b ra rb W h1 h2)
  have HR0 := Lib.hid ha
  have HR1 := Lib.hid hb
  have HG := Lib.hid hg
  obtain ⟨A0, c0, rfl, _⟩ := ha
  obtain ⟨A1, c1, rfl, _⟩ := hb
  clear hg
  generalize tokSame pl a b = out at *
  generalize tokEq a b = tb at *
  obtain ⟨k0, x0, n0, d0, r0, l0, o0⟩ := a
  obtain ⟨k1, x1, n1, d1, r1, l1, o1⟩ := b
  dsimp only at *
  generalize r0.length = m0 at *
  generalize r1.length = m1 at *
  go_enter Tryz.func50, Tryz.ntmps50
  go_wp2_with fail
  obtain ⟨W2, hW2⟩ : ∃ W2, W2 = (w.alloc (.cells #[.int .i64 k0, .string ⟨x0.toArray⟩, .string ⟨n0.toArray⟩, .string ⟨d0.toArray⟩, .slice A0 m0 c0, .int .i64 l0, .int .i64 o0] 43)).alloc (.cells #[.int .i64 k1, .string ⟨x1.toArray⟩, .string ⟨n1.toArray⟩, .string ⟨d1.toArray⟩, .slice A1 m1 c1, .int .i64 l1, .int .i64 o1] 43) := ⟨_, rfl⟩
  have C1 : Cells W2 w.heap.size 43 [.int .i64 k0, .string ⟨x0.toArray⟩, .string ⟨n0.toArray⟩, .string ⟨d0.toArray⟩, .slice A0 m0 c0, .int .i64 l0, .int .i64 o0] := by rw [hW2]; exact (Cells.new w _ _).alloc _
  have C2 : Cells W2 (w.heap.size + 1) 43 [.int .i64 k1, .string ⟨x1.toArray⟩, .string ⟨n1.toArray⟩, .string ⟨d1.toArray⟩, .slice A1 m1 c1, .int .i64 l1, .int .i64 o1] := by
    have h := Cells.new (w.alloc (.cells #[.int .i64 k0, .string ⟨x0.toArray⟩, .string ⟨n0.toArray⟩, .string ⟨d0.toArray⟩, .slice A0 m0 c0, .int .i64 l0, .int .i64 o0] 43)) 43 #[.int .i64 k1, .string ⟨x1.toArray⟩, .string ⟨n1.toArray⟩, .string ⟨d1.toArray⟩, .slice A1 m1 c1, .int .i64 l1, .int .i64 o1]
    rw [World.size_alloc] at h
    rw [hW2]; exact h
  have hbw : Below w.heap.size w W2 := by rw [hW2]; exact ((Below.refl _ _).alloc (Nat.le_refl _) _).alloc (by simp) _
  rw [← hW2]
  clear hW2
  refine (HQ.out _ (HR0.out.lift hbw) (HR1.out.lift hbw)).mono ?_
  rintro e w3 ⟨rfl, hb3⟩
  obtain ⟨⟨p0, p1, p2, p3, p4, p5, p6⟩, _⟩ := cells7 (C1.below hb3 C1.lt)
  obtain ⟨⟨q0, q1, q2, q3, q4, q5, q6⟩, _⟩ := cells7 (C2.below hb3 C2.lt)
  replace hbw := hbw.trans (hb3.mono hbw.size)
  have gg := keep_cell HG.out hbw
  clear C1 C2 hb3 HQ HR0 HR1 HG
  cases tb with
  | false =>
    have HF : Box (out = false) := ⟨by rw [HE.out, Bool.false_and]⟩
    go_wp2_with fail
    go_ret
    exact ⟨ret1 (congrArg Value.bool HF.out.symm), hbw⟩
  | true =>
    cases pl with
    | false =>
      have HF : Box (out = true) := ⟨by rw [HE.out]; rfl⟩
      go_wp2_with fail
      go_ret
      exact ⟨ret1 (congrArg Value.bool HF.out.symm), hbw⟩
    | true =>
      by_cases h1 : l0 = l1
      · by_cases h2 : o0 = o1
        · have HF : Box (out = true) := ⟨by rw [HE.out, h1, h2]; simp⟩
          subst h1 h2
          clear HE
          go_wp2_with fail
          go_ret
          exact ⟨ret1 (congrArg Value.bool HF.out.symm), hbw⟩
        · have h2' : (o0 == o1) = false := by simpa using h2
          have HF : Box (out = false) := ⟨by rw [HE.out, h2']; simp⟩
          subst h1
          clear HE
          go_wp2_with fail
          go_ret
          exact ⟨ret1 (congrArg Value.bool HF.out.symm), hbw⟩
      · have h1' : (l0 == l1) = false := by simpa using h1
        have HF : Box (out = false) := ⟨by rw [HE.out, h1']; simp⟩
        clear HE
        go_wp2_with fail
        go_ret
        exact ⟨ret1 (congrArg Value.bool HF.out.symm), hbw⟩

set_option maxRecDepth 100000 in
set_option maxHeartbeats 4000000 in
theorem equalFunc_same (v1 v2 : Value) (l m : List Tok) (pl : Bool) (g : Nat) (w : World) (h1 : IsToks w w.heap.size v1 l) (h2 : IsToks w w.heap.size v2 m) (hg : w.cell? ⟨g, 0, Option.none⟩ = some (.bool pl)) :
    Calls Tryz.prog 49 #[v1, v2, .func (.func 50) #[] #[.pointer (some ⟨g, 0, Option.none⟩)]] w fun e w' => e = .returned (.bool (toksSame pl l m)) ∧ Below w.heap.size w w' := by
  have H1 := Lib.hid h1
  have H2 := Lib.hid h2
  have HG := Lib.hid hg
  clear hg
  obtain ⟨AX, cx, _, rfl, hc1, hc2, _⟩ := h1
  have hl : l.length ≤ 9223372036854775807 := by unfold maxLen at hc2; omega
  clear hc1 hc2
  obtain ⟨AY, cy, _, rfl, _⟩ := h2
  by_cases hlm : l.length = m.length
  · have hne : ((l.length : Int) != (m.length : Int)) = false := by simp [hlm]
    have HLM : Box (l.length = m.length) := ⟨hlm⟩
    clear hlm
    obtain ⟨out, HO⟩ : ∃ out, Box (toksSame pl (l.drop 0) (m.drop 0) = out ∧ toksSame pl l m = out) := ⟨_, ⟨rfl, rfl⟩⟩
    rw [HO.out.2]
    go_enter Tryz.func49, Tryz.ntmps49
    go_wp2_with fail
    go_loopw [17] (fun i wr => ∃ k : Nat, k ≤ l.length ∧ i = .int .i64 k ∧ Box (toksSame pl (l.drop k) (m.drop k) = out) ∧ Below w.heap.size w wr) (fun i _ => l.length - (intOf i).toNat)
    case atStart => exact ⟨0, Nat.zero_le _, rfl, ⟨HO.out.1⟩, Below.refl _ _⟩
    case round =>
      obtain ⟨k, hk, rfl, HK, hbw⟩ := hrel
      by_cases hlt : k < l.length
      · have hlt2 : k < m.length := by rw [← HLM.out]; exact hlt
        obtain ⟨b1, o1, r1, rfl, hb1, hr1, hc1⟩ := (H1.out.lift hbw).at_ hlt
        obtain ⟨b2, o2, r2, rfl, hb2, hr2, hc2⟩ := (H2.out.lift hbw).at_ hlt2
        have HS : Box (out = (tokSame pl (l[k]'hlt) (m[k]'hlt2) && toksSame pl (l.drop (k + 1)) (m.drop (k + 1)))) := ⟨by rw [← HK.out, toksSame_drop hlt hlt2]⟩
        have HE := Lib.hid (fun W h1 h2 h3 => same1_any (l[k]'hlt) (m[k]'hlt2) r1 r2 pl g W h1 h2 h3)
        generalize l[k]'hlt = t1 at *
        generalize m[k]'hlt2 = t2 at *
        have HR1 := Lib.hid hr1
        have HR2 := Lib.hid hr2
        obtain ⟨A1, C1, e1, _⟩ := hr1
        subst e1
        obtain ⟨A2, C2, e2, _⟩ := hr2
        subst e2
        generalize tokSame pl t1 t2 = tb at *
        have p0 := hc1 0 (by omega)
        have p1 := hc1 1 (by omega)
        have p2 := hc1 2 (by omega)
        have p3 := hc1 3 (by omega)
        have p4 := hc1 4 (by omega)
        have p5 := hc1 5 (by omega)
        have p6 := hc1 6 (by omega)
        simp only [tokVals, List.getElem?_cons_succ, List.getElem?_cons_zero, Nat.add_zero] at p0 p1 p2 p3 p4 p5 p6
        have q0 := hc2 0 (by omega)
        have q1 := hc2 1 (by omega)
        have q2 := hc2 2 (by omega)
        have q3 := hc2 3 (by omega)
        have q4 := hc2 4 (by omega)
        have q5 := hc2 5 (by omega)
        have q6 := hc2 6 (by omega)
        simp only [tokVals, List.getElem?_cons_succ, List.getElem?_cons_zero, Nat.add_zero] at q0 q1 q2 q3 q4 q5 q6
        have hk2 : (k : Int) < (m.length : Int) := by omega
        clear hc1 hc2
        cases tb with
        | false =>
          have HF : Box (out = false) := ⟨by rw [HS.out]; rfl⟩
          clear HS HK HO
          go_wp2_with fail
          have hba : Below wr.heap.size wr ((wr.alloc (.cells #[.int .i64 t1.kind, .string ⟨t1.text.toArray⟩, .string ⟨t1.num.toArray⟩, .string ⟨t1.den.toArray⟩, .slice A1 t1.row.length C1, .int .i64 t1.line, .int .i64 t1.col] 43)).alloc (.cells #[.int .i64 t2.kind, .string ⟨t2.text.toArray⟩, .string ⟨t2.num.toArray⟩, .string ⟨t2.den.toArray⟩, .slice A2 t2.row.length C2, .int .i64 t2.line, .int .i64 t2.col] 43)) := ((Below.refl _ _).alloc (Nat.le_refl _) _).alloc (by simp) _
          refine (HE.out _ (HR1.out.lift hba) (HR2.out.lift hba) (keep_cell HG.out (hbw.trans (hba.mono hbw.size)))).mono ?_
          rintro e w1 ⟨rfl, hb1⟩
          have hbn := hbw.trans ((hba.trans (hb1.mono hba.size)).mono hbw.size)
          clear hb1 hba
          go_wp2_with fail
          go_ret
          exact ⟨ret1 (congrArg Value.bool HF.out.symm), hbn⟩
        | true =>
          have HF : Box (toksSame pl (l.drop (k + 1)) (m.drop (k + 1)) = out) := ⟨by rw [HS.out]; rfl⟩
          clear HS HK HO
          go_wp2_with fail
          have hba : Below wr.heap.size wr ((wr.alloc (.cells #[.int .i64 t1.kind, .string ⟨t1.text.toArray⟩, .string ⟨t1.num.toArray⟩, .string ⟨t1.den.toArray⟩, .slice A1 t1.row.length C1, .int .i64 t1.line, .int .i64 t1.col] 43)).alloc (.cells #[.int .i64 t2.kind, .string ⟨t2.text.toArray⟩, .string ⟨t2.num.toArray⟩, .string ⟨t2.den.toArray⟩, .slice A2 t2.row.length C2, .int .i64 t2.line, .int .i64 t2.col] 43)) := ((Below.refl _ _).alloc (Nat.le_refl _) _).alloc (by simp) _
          refine (HE.out _ (HR1.out.lift hba) (HR2.out.lift hba) (keep_cell HG.out (hbw.trans (hba.mono hbw.size)))).mono ?_
          rintro e w1 ⟨rfl, hb1⟩
          have hbn := hbw.trans ((hba.trans (hb1.mono hba.size)).mono hbw.size)
          clear hb1 hba
          go_wp2_with fail
          go_roundw
          case rel => exact ⟨k + 1, by omega, by go_num, HF, hbn⟩
          case measure => simp [intOf]; omega
      · obtain rfl : k = l.length := by omega
        have HF : Box (out = true) := ⟨by rw [← HK.out, List.drop_length, HLM.out, List.drop_length]; rfl⟩
        go_wp2_with fail
        go_ret
        exact ⟨ret1 (congrArg Value.bool HF.out.symm), hbw⟩
  · have hne : ((l.length : Int) != (m.length : Int)) = true := by rw [bne_iff_ne]; omega
    have HE : Box (toksSame pl l m = false) := ⟨toksSame_len pl l m hlm⟩
    go_enter Tryz.func49, Tryz.ntmps49
    go_wp2_with fail
    go_ret
    exact ⟨ret1 (congrArg Value.bool HE.out.symm), Below.refl _ _⟩

set_option maxRecDepth 100000 in
set_option maxHeartbeats 1000000 in
theorem same_any47 (v1 v2 : Value) (l m : List Tok) (pl : Bool) (w : World) (h1 : IsToks w w.heap.size v1 l) (h2 : IsToks w w.heap.size v2 m) :
    Calls Tryz.prog 14 #[v1, v2, .bool pl] w fun e w' => e = .returned (.bool (toksSame pl l m)) ∧ Below w.heap.size w w' := by
  have hba : Below w.heap.size w (w.alloc (.cells #[.bool pl] 4)) := (Below.refl _ _).alloc (Nat.le_refl _) _
  have HQ := Lib.hid (equalFunc_same v1 v2 l m pl w.heap.size (w.alloc (.cells #[.bool pl] 4)) (h1.lift hba) (h2.lift hba) ((Cells.new w 4 #[.bool pl]).cell 0))
  have HBA := Lib.hid hba
  obtain ⟨AX, cx, _, rfl, _⟩ := h1
  obtain ⟨AY, cy, _, rfl, _⟩ := h2
  clear hba
  generalize toksSame pl l m = out at *
  go_enter Tryz.func14, Tryz.ntmps14
  go_wp2_with fail
  refine HQ.out.mono ?_
  rintro e w3 ⟨rfl, hb3⟩
  have hbw := HBA.out.trans (hb3.mono HBA.out.size)
  clear hb3
  go_wp2_with fail
  go_ret
  exact ⟨rfl, hbw⟩

theorem toksSame_cores : ∀ (l m : List Tok), l.map (fun t => (t.kind, t.text, t.num, t.den, t.row)) = m.map (fun t => (t.kind, t.text, t.num, t.den, t.row)) → toksSame false l m = true
  | [], [], _ => rfl
  | [], _ :: _, h => by simp at h
  | _ :: _, [], h => by simp at h
  | a :: l, b :: m, h => by
    simp only [List.map_cons, List.cons.injEq, Prod.mk.injEq] at h
    obtain ⟨⟨h1, h2, h3, h4, h5⟩, h6⟩ := h
    rw [toksSame, toksSame_cores l m h6, tokSame, tokEq, h1, h2, h3, h4, h5]
    simp [sameB]

end Go.Proofs.YtagfnnongamneaaGreatDoor
