/- schismalaw47.same: comparing tokens with their places or without. strings.Join of texts that the call owns. The lexer in plain words: blanks before a line, comments behind it and empty lines change nothing but places; places increase. -/
import Derived.Test.YtagfnnongamneaaGreatDoorGN
import Derived.Test.YtagfnnongamneaaGreatDoorGO
import Derived.Test.YtagfnnongamneaaGreatDoorGE
import Derived.Test.YtagfnnongamneaaGreatDoorGL
import Derived.Test.YtagfnnongamneaaGreatDoorGK
namespace Go.Proofs.YtagfnnongamneaaGreatDoor
open Go.RowKit Go.Lib

def tokSame (pl : Bool) (a b : Tok) : Bool := tokEq a b && (!pl || (a.line == b.line && a.col == b.col))
def toksSame (pl : Bool) : List Tok → List Tok → Bool
  | [], [] => true
  | a :: l, b :: m => tokSame pl a b && toksSame pl l m
  | _, _ => false
theorem toksSame_len (pl : Bool) : ∀ l m, l.length ≠ m.length → toksSame pl l m = false
  | [], [], h => absurd rfl h
  | [], _ :: _, _ => rfl
  | _ :: _, [], _ => rfl
  | a :: l, b :: m, h => by rw [toksSame, toksSame_len pl l m (by simpa using h), Bool.and_false]
theorem toksSame_drop {pl : Bool} {l m : List Tok} {k : Nat} (h1 : k < l.length) (h2 : k < m.length) : toksSame pl (l.drop k) (m.drop k) = (tokSame pl (l[k]'h1) (m[k]'h2) && toksSame pl (l.drop (k + 1)) (m.drop (k + 1))) := by
  rw [List.drop_eq_getElem_cons h1, List.drop_eq_getElem_cons h2, toksSame]

set_option maxRecDepth 100000 in
set_option maxHeartbeats 4000000 in
theorem same1_any (a b : Tok) (ra rb : Value) (pl : Bool) (g : Nat) (w : World) (ha : IsRow w w.heap.size ra a.row) (hb : IsRow w w.heap.size rb b.row) (hg : w.cell? ⟨g, 0, Option.none⟩ = some (.bool pl)) :
    Calls Tryz.prog 50 #[.agg #[.int .i64 a.kind, .string ⟨a.text.toArray⟩, .string ⟨a.num.toArray⟩, .string ⟨a.den.toArray⟩, ra, .int .i64 a.line, .int .i64 a.col], .agg #[.int .i64 b.kind, .string ⟨b.text.toArray⟩, .string ⟨b.num.toArray⟩, .string ⟨b.den.toArray⟩, rb, .int .i64 b.line, .int .i64 b.col], .pointer (some ⟨g, 0, Option.none⟩)] w fun e w' => e = .returned (.bool (tokSame pl a b)) ∧ Below w.heap.size w w' := by
  have HE : Box (tokSame pl a b = (tokEq a b && (!pl || (a.line == b.line && a.col == b.col)))) := ⟨rfl⟩
  have HQ := Lib.hid (fun W h1 h2 => lawEqual_any a b ra rb W h1 h2)
  have HR0 := Lib.hid ha
  have HR1 := Lib.hid hb
  have HG := Lib.hid hg
  obtain ⟨A0, c0, rfl, _⟩ := ha
  obtain ⟨A1, c1, rfl, _⟩ := hb
  clear hg
  generalize tokSame pl a b = out at *
  generalize tokEq a b = tb at *
  obtain ⟨k0, x0, n0, d0, r0, l0, o0⟩ := a
  obtain ⟨k1, x1, n1, d1, r1, l1, o1⟩ := b
  dsimp only at *
  generalize r0.length = m0 at *
  generalize r1.length = m1 at *
  go_enter Tryz.func50, Tryz.ntmps50
  go_wp2_with fail
  obtain ⟨W2, hW2⟩ : ∃ W2, W2 = (w.alloc (.cells #[.int .i64 k0, .string ⟨x0.toArray⟩, .string ⟨n0.toArray⟩, .string ⟨d0.toArray⟩, .slice A0 m0 c0, .int .i64 l0, .int .i64 o0] 43)).alloc (.cells #[.int .i64 k1, .string ⟨x1.toArray⟩, .string ⟨n1.toArray⟩, .string ⟨d1.toArray⟩, .slice A1 m1 c1, .int .i64 l1, .int .i64 o1] 43) := ⟨_, rfl⟩
  have C1 : Cells W2 w.heap.size 43 [.int .i64 k0, .string ⟨x0.toArray⟩, .string ⟨n0.toArray⟩, .string ⟨d0.toArray⟩, .slice A0 m0 c0, .int .i64 l0, .int .i64 o0] := by rw [hW2]; exact (Cells.new w _ _).alloc _
  have C2 : Cells W2 (w.heap.size + 1) 43 [.int .i64 k1, .string ⟨x1.toArray⟩, .string ⟨n1.toArray⟩, .string ⟨d1.toArray⟩, .slice A1 m1 c1, .int .i64 l1, .int .i64 o1] := by
    have h := Cells.new (w.alloc (.cells #[.int .i64 k0, .string ⟨x0.toArray⟩, .string ⟨n0.toArray⟩, .string ⟨d0.toArray⟩, .slice A0 m0 c0, .int .i64 l0, .int .i64 o0] 43)) 43 #[.int .i64 k1, .string ⟨x1.toArray⟩, .string ⟨n1.toArray⟩, .string ⟨d1.toArray⟩, .slice A1 m1 c1, .int .i64 l1, .int .i64 o1]
    rw [World.size_alloc] at h
    rw [hW2]; exact h
  have hbw : Below w.heap.size w W2 := by rw [hW2]; exact ((Below.refl _ _).alloc (Nat.le_refl _) _).alloc (by simp) _
  rw [← hW2]
  clear hW2
  refine (HQ.out _ (HR0.out.lift hbw) (HR1.out.lift hbw)).mono ?_
  rintro e w3 ⟨rfl, hb3⟩
  obtain ⟨⟨p0, p1, p2, p3, p4, p5, p6⟩, _⟩ := cells7 (C1.below hb3 C1.lt)
  obtain ⟨⟨q0, q1, q2, q3, q4, q5, q6⟩, _⟩ := cells7 (C2.below hb3 C2.lt)
  replace hbw := hbw.trans (hb3.mono hbw.size)
  have gg := keep_cell HG.out hbw
  clear C1 C2 hb3 HQ HR0 HR1 HG
  cases tb with
  | false =>
    have HF : Box (out = false) := ⟨by rw [HE.out, Bool.false_and]⟩
    go_wp2_with fail
    go_ret
    exact ⟨ret1 (congrArg Value.bool HF.out.symm), hbw⟩
  | true =>
    cases pl with
    | false =>
      have HF : Box (out = true) := ⟨by rw [HE.out]; rfl⟩
      go_wp2_with fail
      go_ret
      exact ⟨ret1 (congrArg Value.bool HF.out.symm), hbw⟩
    | true =>
      by_cases h1 : l0 = l1
      · by_cases h2 : o0 = o1
        · have HF : Box (out = true) := ⟨by rw [HE.out, h1, h2]; simp⟩
          subst h1 h2
          clear HE
          go_wp2_with fail
          go_ret
          exact ⟨ret1 (congrArg Value.bool HF.out.symm), hbw⟩
        · have h2' : (o0 == o1) = false := by simpa using h2
          have HF : Box (out = false) := ⟨by rw [HE.out, h2']; simp⟩
          subst h1
          clear HE
          go_wp2_with fail
          go_ret
          exact ⟨ret1 (congrArg Value.bool HF.out.symm), hbw⟩
      · have h1' : (l0 == l1) = false := by simpa using h1
        have HF : Box (out = false) := ⟨by rw [HE.out, h1']; simp⟩
        clear HE
        go_wp2_with fail
        go_ret
        exact ⟨ret1 (congrArg Value.bool HF.out.symm), hbw⟩

set_option maxRecDepth 100000 in
set_option maxHeartbeats 4000000 in
theorem equalFunc_same (v1 v2 : Value) (l m : List Tok) (pl : Bool) (g : Nat) (w : World) (h1 : IsToks w w.heap.size v1 l) (h2 : IsToks w w.heap.size v2 m) (hg : w.cell? ⟨g, 0, Option.none⟩ = some (.bool pl)) :
    Calls Tryz.prog 49 #[v1, v2, .func (.func 50) #[] #[.pointer (some ⟨g, 0, Option.none⟩)]] w fun e w' => e = .returned (.bool (toksSame pl l m)) ∧ Below w.heap.size w w' := by
  have H1 := Lib.hid h1
  have H2 := Lib.hid h2
  have HG := Lib.hid hg
  clear hg
  obtain ⟨AX, cx, _, rfl, hc1, hc2, _⟩ := h1
  have hl : l.length ≤ 9223372036854775807 := by unfold maxLen at hc2; omega
  clear hc1 hc2
  obtain ⟨AY, cy, _, rfl, _⟩ := h2
  by_cases hlm : l.length = m.length
  · have hne : ((l.length : Int) != (m.length : Int)) = false := by simp [hlm]
    have HLM : Box (l.length = m.length) := ⟨hlm⟩
    clear hlm
    obtain ⟨out, HO⟩ : ∃ out, Box (toksSame pl (l.drop 0) (m.drop 0) = out ∧ toksSame pl l m = out) := ⟨_, ⟨rfl, rfl⟩⟩
    rw [HO.out.2]
    go_enter Tryz.func49, Tryz.ntmps49
    go_wp2_with fail
    go_loopw [17] (fun i wr => ∃ k : Nat, k ≤ l.length ∧ i = .int .i64 k ∧ Box (toksSame pl (l.drop k) (m.drop k) = out) ∧ Below w.heap.size w wr) (fun i _ => l.length - (intOf i).toNat)
    case atStart => exact ⟨0, Nat.zero_le _, rfl, ⟨HO.out.1⟩, Below.refl _ _⟩
    case round =>
      obtain ⟨k, hk, rfl, HK, hbw⟩ := hrel
      by_cases hlt : k < l.length
      · have hlt2 : k < m.length := by rw [← HLM.out]; exact hlt
        obtain ⟨b1, o1, r1, rfl, hb1, hr1, hc1⟩ := (H1.out.lift hbw).at_ hlt
        obtain ⟨b2, o2, r2, rfl, hb2, hr2, hc2⟩ := (H2.out.lift hbw).at_ hlt2
        have HS : Box (out = (tokSame pl (l[k]'hlt) (m[k]'hlt2) && toksSame pl (l.drop (k + 1)) (m.drop (k + 1)))) := ⟨by rw [← HK.out, toksSame_drop hlt hlt2]⟩
        have HE := Lib.hid (fun W h1 h2 h3 => same1_any (l[k]'hlt) (m[k]'hlt2) r1 r2 pl g W h1 h2 h3)
        generalize l[k]'hlt = t1 at *
        generalize m[k]'hlt2 = t2 at *
        have HR1 := Lib.hid hr1
        have HR2 := Lib.hid hr2
        obtain ⟨A1, C1, e1, _⟩ := hr1
        subst e1
        obtain ⟨A2, C2, e2, _⟩ := hr2
        subst e2
        generalize tokSame pl t1 t2 = tb at *
        have p0 := hc1 0 (by omega)
        have p1 := hc1 1 (by omega)
        have p2 := hc1 2 (by omega)
        have p3 := hc1 3 (by omega)
        have p4 := hc1 4 (by omega)
        have p5 := hc1 5 (by omega)
        have p6 := hc1 6 (by omega)
        simp only [tokVals, List.getElem?_cons_succ, List.getElem?_cons_zero, Nat.add_zero] at p0 p1 p2 p3 p4 p5 p6
        have q0 := hc2 0 (by omega)
        have q1 := hc2 1 (by omega)
        have q2 := hc2 2 (by omega)
        have q3 := hc2 3 (by omega)
        have q4 := hc2 4 (by omega)
        have q5 := hc2 5 (by omega)
        have q6 := hc2 6 (by omega)
        simp only [tokVals, List.getElem?_cons_succ, List.getElem?_cons_zero, Nat.add_zero] at q0 q1 q2 q3 q4 q5 q6
        have hk2 : (k : Int) < (m.length : Int) := by omega
        clear hc1 hc2
        cases tb with
        | false =>
          have HF : Box (out = false) := ⟨by rw [HS.out]; rfl⟩
          clear HS HK HO
          go_wp2_with fail
          have hba : Below wr.heap.size wr ((wr.alloc (.cells #[.int .i64 t1.kind, .string ⟨t1.text.toArray⟩, .string ⟨t1.num.toArray⟩, .string ⟨t1.den.toArray⟩, .slice A1 t1.row.length C1, .int .i64 t1.line, .int .i64 t1.col] 43)).alloc (.cells #[.int .i64 t2.kind, .string ⟨t2.text.toArray⟩, .string ⟨t2.num.toArray⟩, .string ⟨t2.den.toArray⟩, .slice A2 t2.row.length C2, .int .i64 t2.line, .int .i64 t2.col] 43)) := ((Below.refl _ _).alloc (Nat.le_refl _) _).alloc (by simp) _
          refine (HE.out _ (HR1.out.lift hba) (HR2.out.lift hba) (keep_cell HG.out (hbw.trans (hba.mono hbw.size)))).mono ?_
          rintro e w1 ⟨rfl, hb1⟩
          have hbn := hbw.trans ((hba.trans (hb1.mono hba.size)).mono hbw.size)
          clear hb1 hba
          go_wp2_with fail
          go_ret
          exact ⟨ret1 (congrArg Value.bool HF.out.symm), hbn⟩
        | true =>
          have HF : Box (toksSame pl (l.drop (k + 1)) (m.drop (k + 1)) = out) := ⟨by rw [HS.out]; rfl⟩
          clear HS HK HO
          go_wp2_with fail
          have hba : Below wr.heap.size wr ((wr.alloc (.cells #[.int .i64 t1.kind, .string ⟨t1.text.toArray⟩, .string ⟨t1.num.toArray⟩, .string ⟨t1.den.toArray⟩, .slice A1 t1.row.length C1, .int .i64 t1.line, .int .i64 t1.col] 43)).alloc (.cells #[.int .i64 t2.kind, .string ⟨t2.text.toArray⟩, .string ⟨t2.num.toArray⟩, .string ⟨t2.den.toArray⟩, .slice A2 t2.row.length C2, .int .i64 t2.line, .int .i64 t2.col] 43)) := ((Below.refl _ _).alloc (Nat.le_refl _) _).alloc (by simp) _
          refine (HE.out _ (HR1.out.lift hba) (HR2.out.lift hba) (keep_cell HG.out (hbw.trans (hba.mono hbw.size)))).mono ?_
          rintro e w1 ⟨rfl, hb1⟩
          have hbn := hbw.trans ((hba.trans (hb1.mono hba.size)).mono hbw.size)
          clear hb1 hba
          go_wp2_with fail
          go_roundw
          case rel => exact ⟨k + 1, by omega, by go_num, HF, hbn⟩
          case measure => simp [intOf]; omega
      · obtain rfl : k = l.length := by omega
        have HF : Box (out = true) := ⟨by rw [← HK.out, List.drop_length, HLM.out, List.drop_length]; rfl⟩
        go_wp2_with fail
        go_ret
        exact ⟨ret1 (congrArg Value.bool HF.out.symm), hbw⟩
  · have hne : ((l.length : Int) != (m.length : Int)) = true := by rw [bne_iff_ne]; omega
    have HE : Box (toksSame pl l m = false) := ⟨toksSame_len pl l m hlm⟩
    go_enter Tryz.func49, Tryz.ntmps49
    go_wp2_with fail
    go_ret
    exact ⟨ret1 (congrArg Value.bool HE.out.symm), Below.refl _ _⟩

set_option maxRecDepth 100000 in
set_option maxHeartbeats 1000000 in
theorem same_any47 (v1 v2 : Value) (l m : List Tok) (pl : Bool) (w : World) (h1 : IsToks w w.heap.size v1 l) (h2 : IsToks w w.heap.size v2 m) :
    Calls Tryz.prog 14 #[v1, v2, .bool pl] w fun e w' => e = .returned (.bool (toksSame pl l m)) ∧ Below w.heap.size w w' := by
  have hba : Below w.heap.size w (w.alloc (.cells #[.bool pl] 4)) := (Below.refl _ _).alloc (Nat.le_refl _) _
  have HQ := Lib.hid (equalFunc_same v1 v2 l m pl w.heap.size (w.alloc (.cells #[.bool pl] 4)) (h1.lift hba) (h2.lift hba) ((Cells.new w 4 #[.bool pl]).cell 0))
  have HBA := Lib.hid hba
  obtain ⟨AX, cx, _, rfl, _⟩ := h1
  obtain ⟨AY, cy, _, rfl, _⟩ := h2
  clear hba
  generalize toksSame pl l m = out at *
  go_enter Tryz.func14, Tryz.ntmps14
  go_wp2_with fail
  refine HQ.out.mono ?_
  rintro e w3 ⟨rfl, hb3⟩
  have hbw := HBA.out.trans (hb3.mono HBA.out.size)
  clear hb3
  go_wp2_with fail
  go_ret
  exact ⟨rfl, hbw⟩

theorem toksSame_cores : ∀ (l m : List Tok), l.map (fun t => (t.kind, t.text, t.num, t.den, t.row)) = m.map (fun t => (t.kind, t.text, t.num, t.den, t.row)) → toksSame false l m = true
  | [], [], _ => rfl
  | [], _ :: _, h => by simp at h
  | _ :: _, [], h => by simp at h
  | a :: l, b :: m, h => by
    simp only [List.map_cons, List.cons.injEq, Prod.mk.injEq] at h
    obtain ⟨⟨h1, h2, h3, h4, h5⟩, h6⟩ := h
    rw [toksSame, toksSame_cores l m h6, tokSame, tokEq, h1, h2, h3, h4, h5]
    simp [sameB]

end Go.Proofs.YtagfnnongamneaaGreatDoor

namespace Go.Proofs.YtagfnnongamneaaGreatDoor
open Go.RowKit Go.Lib

theorem join_own (base : Nat) (v : Value) (ws : List (List UInt8)) (b : List UInt8) (w : World) (h : w.ownsRow base 9 1 v ws.length (strs ws)) (hj : (Lib.join ws b).length ≤ 1000000) (hn : ws.length ≤ 1000000) :
    Calls Tryz.prog 22 #[v, .string ⟨b.toArray⟩] w fun e w' => e = .returned (.string ⟨(Lib.join ws b).toArray⟩) ∧ Below w.heap.size w w' := by
  obtain ⟨A7, c7, rfl, hc7, hm7, hr7⟩ := Row.of_own h
  rcases Nat.eq_zero_or_pos ws.length with h0 | h0
  · have hn : ws = [] := List.eq_nil_of_length_eq_zero h0
    rw [h0]
    refine (Tryz.strings_Join_none A7 c7 ⟨b.toArray⟩ w).mono fun e w' ⟨h1, h2⟩ => ⟨?_, h2 ▸ Below.refl _ _⟩
    rw [h1, hn]; rfl
  · have hcell : ∀ j s, ws[j]? = some s → ∃ ad, A7 = some ad ∧ ad.block < w.heap.size ∧ w.cell? (ad.add j) = some (.string ⟨s.toArray⟩) := by
      intro j s hs
      exact hr7.get j _ (by unfold strs; rw [List.getElem?_map, hs]; rfl)
    obtain ⟨ad, rfl, hadb, hc0⟩ := hcell 0 _ (List.getElem?_eq_getElem h0)
    have hz : ad.add 0 = ad := by unfold Addr.add; simp
    rw [hz] at hc0
    obtain ⟨bk, o, rfl⟩ := addr_plain hc0
    have hid : ((fun x : ByteArray => x.data.toList) ∘ fun s : List UInt8 => (⟨s.toArray⟩ : ByteArray)) = id := by funext s; rfl
    have hJ := Tryz.strings_Join bk o c7 (ws.map fun s => ⟨s.toArray⟩) ⟨b.toArray⟩ w (by
      intro j s hs
      rw [List.getElem?_map] at hs
      cases hw : ws[j]? with
      | none => rw [hw] at hs; cases hs
      | some t =>
        rw [hw] at hs
        simp at hs
        subst hs
        obtain ⟨ad', e, _, hc'⟩ := hcell j t hw
        have e2 := Option.some.inj e
        subst e2
        rw [Lib.add_plain] at hc'
        exact hc') hadb (by simp; omega) (by simp; omega) (by
      rw [List.map_map, hid, List.map_id]
      exact Nat.le_trans hj (by omega))
    rw [List.length_map, List.map_map, hid, List.map_id] at hJ
    exact hJ

theorem strs_snoc (ws : List (List UInt8)) (t : List UInt8) : strs (ws ++ [t]) = strs ws ++ [.string ⟨t.toArray⟩] := by unfold strs; rw [List.map_append]; rfl

end Go.Proofs.YtagfnnongamneaaGreatDoor

namespace Go.Proofs.YtagfnnongamneaaGreatDoor
open Go.RowKit Go.Lib

/-- The token without its place. -/
def Tok.core (t : Tok) : Int × List UInt8 × List UInt8 × List UInt8 × List Int := (t.kind, t.text, t.num, t.den, t.row)
def cores (l : List Tok) : List (Int × List UInt8 × List UInt8 × List UInt8 × List Int) := l.map Tok.core
theorem cores_len {l m : List Tok} (h : cores l = cores m) : l.length = m.length := by have := congrArg List.length h; simpa [cores] using this
theorem cores_snoc {l m : List Tok} {a b : Tok} (h : cores l = cores m) (h2 : a.core = b.core) : cores (l ++ [a]) = cores (m ++ [b]) := by unfold cores at *; simp [h, h2]

theorem runLen_space {p : UInt8 → Bool} (hp : p 32 = false) : ∀ s, runLen p (s ++ [32]) = runLen p s
  | [] => by simp [runLen, hp]
  | c :: t => by simp only [List.cons_append, runLen, runLen_space hp t]
theorem take_space {s : List UInt8} {n : Nat} (h : n ≤ s.length) : (s ++ [32]).take n = s.take n := List.take_append_of_le_length h
theorem indexByte_space {c : UInt8} (hc : (32 : UInt8) ≠ c) : ∀ s, Lib.indexByte (s ++ [32]) c = Lib.indexByte s c
  | [] => by simp [Lib.indexByte, hc]
  | x :: t => by simp only [List.cons_append, Lib.indexByte, indexByte_space hc t]

theorem nextRead_space {s : List UInt8} (h0 : 0 < s.length) : nextRead (s ++ [32]) = nextRead s := by
  obtain ⟨c, t, rfl⟩ : ∃ c t, s = c :: t := by cases s with | nil => simp at h0 | cons c t => exact ⟨c, t, rfl⟩
  have hh : ((c :: t) ++ [32])[0]?.getD 0 = (c :: t)[0]?.getD 0 := rfl
  have hw : wordRead ((c :: t) ++ [32]) = wordRead (c :: t) := by
    unfold wordRead
    rw [runLen_space (by decide), take_space (runLen_le _ _)]
  have hnl : numLen ((c :: t) ++ [32]) = numLen (c :: t) := by
    unfold numLen
    have e : List.drop 1 ((c :: t) ++ [32]) = t ++ [32] := rfl
    rw [e, runLen_space (by decide)]
    rfl
  have hnb : numLen (c :: t) ≤ (c :: t).length := by unfold numLen; have := runLen_le numB ((c :: t).drop 1); simp at this ⊢; omega
  have hn : numRead ((c :: t) ++ [32]) = numRead (c :: t) := by
    unfold numRead
    rw [hnl, take_space hnb]
  have hbe : brackEnd ((c :: t) ++ [32]) = brackEnd (c :: t) := rfl
  have hbk : brackKind ((c :: t) ++ [32]) = brackKind (c :: t) := rfl
  have hne : (32 : UInt8) ≠ brackEnd (c :: t) := by unfold brackEnd; split <;> decide
  have hbl : brackLen ((c :: t) ++ [32]) = brackLen (c :: t) := by unfold brackLen; rw [hbe, indexByte_space hne]
  have hbb : brackLen (c :: t) ≤ (c :: t).length := by unfold brackLen; have := indexByte_bd (c :: t) (brackEnd (c :: t)); omega
  have hb : brackRead ((c :: t) ++ [32]) = brackRead (c :: t) := by
    unfold brackRead
    rw [hbl, hbk, take_space hbb]
  have hd : (decide (1 < ((c :: t) ++ [32]).length) && digB (((c :: t) ++ [32])[1]?.getD 0)) = (decide (1 < (c :: t).length) && digB ((c :: t)[1]?.getD 0)) := by
    cases t with
    | nil => rfl
    | cons d t => simp
  have ht : List.take 1 ((c :: t) ++ [32]) = List.take 1 (c :: t) := rfl
  unfold nextRead
  rw [hh, hw, hn, hb, hd, ht]

theorem lineStep_good {i k : Nat} {acc : List Tok} {kd : Int} {t n d : List UInt8} {x : List Int} {m : Nat} {go : List Tok → Nat → Lrd} : lineStep i k acc (.good kd t n d x m) go = if acc.length = 4000 then .bad (k + 1) 4 else go (acc ++ [⟨kd, t, n, d, x, i + 1, k + 1⟩]) (k + m) := rfl
theorem lineRead_fuel {i : Nat} {ln : List UInt8} : ∀ (g g' k : Nat) (acc : List Tok), ln.length - k < g → ln.length - k < g' → lineRead i ln g k acc = lineRead i ln g' k acc
  | 0, _, _, _, h, _ => by omega
  | _ + 1, 0, _, _, _, h => by omega
  | g + 1, g' + 1, k, acc, h, h' => by
    rw [lineRead, lineRead]
    by_cases hk : k < ln.length
    · rw [if_pos hk, if_pos hk]
      by_cases hb : blankB (ln[k]?.getD 0) = true
      · rw [if_pos hb, if_pos hb]
        exact lineRead_fuel g g' (k + 1) acc (by omega) (by omega)
      · rw [if_neg hb, if_neg hb]
        cases hn : nextRead (ln.drop k) with
        | bad e => rfl
        | good kd t n d x m =>
          have := nextRead_len hn (by simp; omega)
          simp at this
          rw [lineStep_good, lineStep_good]
          by_cases hf : acc.length = 4000
          · rw [if_pos hf, if_pos hf]
          · rw [if_neg hf, if_neg hf]
            exact lineRead_fuel g g' (k + m) _ (by omega) (by omega)
    · rw [if_neg hk, if_neg hk]

/-- The same line behind blanks, and with a blank behind it, has the same tokens. -/
theorem lineRead_shift {i i' p : Nat} {ln pre post : List UInt8} (hp : pre.length = p) (hpost : post = [] ∨ post = [32]) : ∀ (g g' k : Nat) (acc acc' l : List Tok), ln.length - k < g → ln.length + 1 - k < g' → k ≤ ln.length → cores acc = cores acc' →
    lineRead i ln g k acc = .good l → ∃ l', lineRead i' (pre ++ ln ++ post) g' (p + k) acc' = .good l' ∧ cores l = cores l'
  | 0, _, _, _, _, _, h, _, _, _, _ => by omega
  | _ + 1, 0, _, _, _, _, _, h, hk, _, _ => by omega
  | g + 1, g' + 1, k, acc, acc', l, h, h', hk, hc, hl => by
    subst hp
    by_cases hlt : k < ln.length
    · have hlt' : pre.length + k < (pre ++ ln ++ post).length := by simp; omega
      have hat : (pre ++ ln ++ post)[pre.length + k]? = ln[k]? := by
        rw [List.append_assoc, List.getElem?_append_right (by omega), Nat.add_sub_cancel_left, List.getElem?_append_left hlt]
      have hdr : (pre ++ ln ++ post).drop (pre.length + k) = ln.drop k ++ post := by
        rw [List.append_assoc, ← List.drop_drop, List.drop_left' rfl, List.drop_append_of_le_length (by omega)]
      have hnx : nextRead ((pre ++ ln ++ post).drop (pre.length + k)) = nextRead (ln.drop k) := by
        rw [hdr]
        rcases hpost with rfl | rfl
        · rw [List.append_nil]
        · exact nextRead_space (by simp; omega)
      rw [lineRead, if_pos hlt] at hl
      rw [lineRead, if_pos hlt', hat, hnx]
      by_cases hb : blankB (ln[k]?.getD 0) = true
      · rw [if_pos hb] at hl ⊢
        exact lineRead_shift rfl hpost g g' (k + 1) acc acc' l (by omega) (by omega) (by omega) hc hl
      · rw [if_neg hb] at hl ⊢
        cases hn : nextRead (ln.drop k) with
        | bad e => rw [hn] at hl; cases hl
        | good kd t n d x m =>
          rw [hn] at hl
          have hm := nextRead_len hn (by simp; omega)
          simp at hm
          rw [lineStep_good] at hl ⊢
          by_cases hf : acc.length = 4000
          · rw [if_pos hf] at hl; cases hl
          · have hf' : ¬ acc'.length = 4000 := by rw [← cores_len hc]; exact hf
            rw [if_neg hf] at hl
            rw [if_neg hf']
            rw [Nat.add_assoc]
            exact lineRead_shift rfl hpost g g' (k + m) (acc ++ [⟨kd, t, n, d, x, i + 1, k + 1⟩]) _ l (by omega) (by omega) (by omega) (cores_snoc hc rfl) hl
    · obtain rfl : k = ln.length := by omega
      rw [lineRead_end (by omega)] at hl
      injection hl with hl
      subst hl
      rcases hpost with rfl | rfl
      · refine ⟨acc', lineRead_end (by simp), hc⟩
      · have hb : blankB ((pre ++ ln ++ [32])[pre.length + ln.length]?.getD 0) = true := by
          rw [List.getElem?_append_right (by simp)]
          simp
          rfl
        have hlt' : pre.length + ln.length < (pre ++ ln ++ [32]).length := by simp
        refine ⟨acc', ?_, hc⟩
        rw [lineRead_blank hlt' hb]
        exact lineRead_end (by simp; omega)

/-- A line with blanks before it and a comment behind it; or the line. -/
def deco (b : Bool) (t : List UInt8) : List UInt8 := if b then [32, 9] ++ t ++ [32, 59, 32, 120, 32, 91] else t
def extra (b : Bool) : List (List UInt8) := if b then [[32, 32, 59, 32, 60]] else []
/-- Each line is decorated, or not, and a line without tokens comes behind it, or not. -/
def blkB : List (Bool × Bool) → List (List UInt8) → List (List UInt8)
  | b :: bs, t :: r => deco b.1 t :: (extra b.2 ++ blkB bs r)
  | _, _ => []
theorem blkB_snoc : ∀ (bs : List (Bool × Bool)) (ws : List (List UInt8)) (b : Bool × Bool) (t : List UInt8), bs.length = ws.length → blkB (bs ++ [b]) (ws ++ [t]) = blkB bs ws ++ (deco b.1 t :: extra b.2)
  | [], [], b, t, _ => by simp [blkB]
  | [], _ :: _, _, _, h => by simp at h
  | _ :: _, [], _, _, h => by simp at h
  | c :: bs, u :: ws, b, t, h => by
    rw [List.cons_append, List.cons_append, blkB, blkB, blkB_snoc bs ws b t (by simpa using h)]
    simp

theorem cutSemi_has : ∀ (s r : List UInt8), 59 ∈ s → cutSemi (s ++ r) = cutSemi s
  | [], _, h => by simp at h
  | c :: t, r, h => by
    unfold cutSemi
    rw [List.cons_append, List.takeWhile_cons, List.takeWhile_cons]
    by_cases hc : c = 59
    · subst hc; rfl
    · have : 59 ∈ t := by
        rcases List.mem_cons.1 h with h | h
        · exact absurd h.symm hc
        · exact h
      have ih := cutSemi_has t r this
      unfold cutSemi at ih
      rw [ih]
theorem cutSemi_hasnt : ∀ (s : List UInt8), 59 ∉ s → cutSemi s = s
  | [], _ => rfl
  | c :: t, h => by
    simp only [List.mem_cons, not_or] at h
    have ih := cutSemi_hasnt t h.2
    unfold cutSemi at ih ⊢
    rw [List.takeWhile_cons, if_pos (by simpa using fun e => h.1 e.symm), ih]
theorem cutSemi_open : ∀ (s r : List UInt8), 59 ∉ s → cutSemi (s ++ r) = s ++ cutSemi r
  | [], _, _ => rfl
  | c :: t, r, h => by
    simp only [List.mem_cons, not_or] at h
    have ih := cutSemi_open t r h.2
    unfold cutSemi at ih ⊢
    rw [List.cons_append, List.takeWhile_cons, if_pos (by simpa using fun e => h.1 e.symm), ih]
    rfl
theorem cutSemi_deco (t : List UInt8) : ∃ post, (post = [] ∨ post = [32]) ∧ cutSemi (deco true t) = [32, 9] ++ cutSemi t ++ post := by
  have h1 : deco true t = [32, 9] ++ (t ++ [32, 59, 32, 120, 32, 91]) := by simp [deco]
  rw [h1, cutSemi_open _ _ (by decide)]
  by_cases h : 59 ∈ t
  · exact ⟨[], .inl rfl, by rw [cutSemi_has _ _ h, List.append_nil]⟩
  · refine ⟨[32], .inr rfl, ?_⟩
    rw [cutSemi_open _ _ h, cutSemi_hasnt _ h, List.append_assoc]
    rfl
theorem lineRead_deco {i i' : Nat} (b : Bool) {t : List UInt8} {acc acc' l : List Tok} (hc : cores acc = cores acc') (h : lineRead i (cutSemi t) (t.length + 1) 0 acc = .good l) :
    ∃ l', lineRead i' (cutSemi (deco b t)) ((deco b t).length + 1) 0 acc' = .good l' ∧ cores l = cores l' := by
  have hct := cutSemi_len t
  cases b with
  | false =>
    have h2 := lineRead_shift (i := i) (i' := i') (p := 0) (ln := cutSemi t) (pre := []) (post := []) rfl (.inl rfl) (t.length + 1) (t.length + 2) 0 acc acc' l (by omega) (by omega) (by omega) hc h
    obtain ⟨l', h3, h4⟩ := h2
    refine ⟨l', ?_, h4⟩
    rw [List.append_nil, List.nil_append] at h3
    rw [show deco false t = t from rfl, ← h3]
    exact lineRead_fuel _ _ _ _ (by omega) (by omega)
  | true =>
    obtain ⟨post, hpost, hq⟩ := cutSemi_deco t
    have hpl : post.length ≤ 1 := by rcases hpost with rfl | rfl <;> simp
    obtain ⟨l', h3, h4⟩ := lineRead_shift (i := i) (i' := i') (p := 2) (ln := cutSemi t) (pre := [32, 9]) rfl hpost (t.length + 1) (t.length + 2) 0 acc acc' l (by omega) (by omega) (by omega) hc h
    refine ⟨l', ?_, h4⟩
    rw [hq]
    have hlen : (deco true t).length + 1 = (t.length + 7) + 1 + 1 := by simp [deco]
    rw [hlen]
    have e0 : ([32, 9] ++ cutSemi t ++ post)[0]?.getD 0 = 32 := rfl
    have e1 : ([32, 9] ++ cutSemi t ++ post)[0 + 1]?.getD 0 = 9 := rfl
    rw [lineRead_blank (by simp) (by rw [e0]; rfl), lineRead_blank (by simp) (by rw [e1]; rfl), ← h3]
    exact lineRead_fuel _ _ _ _ (by simp; omega) (by simp; omega)

theorem cores_nil {l m : List Tok} (h : cores l = cores m) : l.length = m.length := cores_len h

theorem linesRead_extra (i : Nat) (b : Bool) (rest : List (List UInt8)) (acc : List Tok) : ∃ i', linesRead i (extra b ++ rest) acc = linesRead i' rest acc := by
  cases b with
  | false => exact ⟨i, rfl⟩
  | true =>
    refine ⟨i + 1, ?_⟩
    rw [show extra true ++ rest = [32, 32, 59, 32, 60] :: rest from rfl]
    refine linesRead_same ?_ rfl
    rfl

/-- Blanks and comments change nothing but places. -/
theorem linesRead_blk : ∀ (ws : List (List UInt8)) (bs : List (Bool × Bool)) (i i' : Nat) (acc acc' l : List Tok), bs.length = ws.length → cores acc = cores acc' → linesRead i ws acc = .good l → ∃ l', linesRead i' (blkB bs ws) acc' = .good l' ∧ cores l = cores l'
  | [], [], i, i', acc, acc', l, _, hc, h => by
    injection h with h
    subst h
    exact ⟨acc', rfl, hc⟩
  | [], _ :: _, _, _, _, _, _, hb, _, _ => by simp at hb
  | _ :: _, [], _, _, _, _, _, hb, _, _ => by simp at hb
  | t :: r, b :: bs, i, i', acc, acc', l, hb, hc, h => by
    rw [blkB]
    have hb' : bs.length = r.length := by simpa using hb
    cases hl : lineRead i (cutSemi t) (t.length + 1) 0 acc with
    | bad c e => rw [linesRead_bad hl] at h; cases h
    | good m =>
      obtain ⟨m', hm', hcm⟩ := lineRead_deco (i' := i') b.1 hc hl
      have e1 := cores_len hc
      have e2 := cores_len hcm
      by_cases hs : m.length = acc.length
      · rw [linesRead_same hl hs] at h
        rw [linesRead_same hm' (by omega)]
        obtain ⟨j, hj⟩ := linesRead_extra (i' + 1) b.2 (blkB bs r) m'
        rw [hj]
        exact linesRead_blk r bs (i + 1) j m m' l hb' hcm h
      · by_cases h4 : m.length = 4000
        · rw [linesRead_full hl hs h4] at h; cases h
        · rw [linesRead_more hl hs h4] at h
          rw [linesRead_more hm' (by omega) (by omega)]
          obtain ⟨j, hj⟩ := linesRead_extra (i' + 1) b.2 (blkB bs r) (m' ++ [endTok i' (deco b.1 t)])
          rw [hj]
          exact linesRead_blk r bs (i + 1) j (m ++ [endTok i t]) _ l hb' (cores_snoc hcm rfl) h

/-! ### Places increase -/

def Nxt (a b : Tok) : Prop := (a.line = b.line ∧ a.col < b.col) ∨ (a.line < b.line ∧ a.kind = 6)
def Inc (l : List Tok) : Prop := ∀ (k : Nat) a b, l[k]? = some a → l[k + 1]? = some b → Nxt a b
theorem Inc.snoc {l : List Tok} {t : Tok} (h : Inc l) (ht : ∀ a, l.getLast? = some a → Nxt a t) : Inc (l ++ [t]) := by
  intro k a b h1 h2
  by_cases hk : k + 1 < l.length
  · rw [List.getElem?_append_left (by omega)] at h1
    rw [List.getElem?_append_left hk] at h2
    exact h k a b h1 h2
  · by_cases hk2 : k + 1 = l.length
    · rw [List.getElem?_append_left (by omega)] at h1
      rw [List.getElem?_append_right (by omega), hk2, Nat.sub_self] at h2
      simp at h2
      subst h2
      refine ht a ?_
      rw [List.getLast?_eq_getElem?, ← h1]
      congr 1
      omega
    · rw [List.getElem?_append_right (by omega), List.getElem?_eq_none (by simp; omega)] at h2
      cases h2
/-- The last token, if there is one, stands before the place. -/
def Lst (i k : Nat) (l : List Tok) : Prop := ∀ a, l.getLast? = some a → (a.line = (i : Int) + 1 ∧ a.col < (k : Int) + 1) ∨ (a.line < (i : Int) + 1 ∧ a.kind = 6)
theorem lineRead_inc {i : Nat} {ln : List UInt8} : ∀ (g k : Nat) (acc l : List Tok), Inc acc → Lst i k acc → k ≤ ln.length → lineRead i ln g k acc = .good l → Inc l ∧ Lst i ln.length l
  | 0, k, acc, l, hi, hL, hk, h => by
    injection h with h
    subst h
    refine ⟨hi, fun a ha => ?_⟩
    rcases hL a ha with h | h
    · exact .inl ⟨h.1, by omega⟩
    · exact .inr h
  | g + 1, k, acc, l, hi, hL, hk, h => by
    by_cases hlt : k < ln.length
    · rw [lineRead, if_pos hlt] at h
      by_cases hb : blankB (ln[k]?.getD 0) = true
      · rw [if_pos hb] at h
        refine lineRead_inc g (k + 1) acc l hi (fun a ha => ?_) (by omega) h
        rcases hL a ha with h | h
        · exact .inl ⟨h.1, by omega⟩
        · exact .inr h
      · rw [if_neg hb] at h
        cases hn : nextRead (ln.drop k) with
        | bad e => rw [hn] at h; cases h
        | good kd t n d x m =>
          rw [hn] at h
          have hm := nextRead_len hn (by simp; omega)
          simp at hm
          rw [lineStep_good] at h
          by_cases hf : acc.length = 4000
          · rw [if_pos hf] at h; cases h
          · rw [if_neg hf] at h
            refine lineRead_inc g (k + m) _ l (hi.snoc fun a ha => ?_) (fun a ha => ?_) (by omega) h
            · rcases hL a ha with h | h
              · exact .inl ⟨h.1, h.2⟩
              · exact .inr ⟨h.1, h.2⟩
            · rw [List.getLast?_append] at ha
              simp at ha
              subst ha
              exact .inl ⟨rfl, by show (k : Int) + 1 < _; omega⟩
    · rw [lineRead_end hlt] at h
      injection h with h
      subst h
      obtain rfl : k = ln.length := by omega
      exact ⟨hi, hL⟩
theorem lineRead_ext {i : Nat} {ln : List UInt8} : ∀ (g k : Nat) (acc l : List Tok), lineRead i ln g k acc = .good l → ∃ x, l = acc ++ x
  | 0, _, acc, l, h => by injection h with h; exact ⟨[], by rw [h, List.append_nil]⟩
  | g + 1, k, acc, l, h => by
    by_cases hlt : k < ln.length
    · rw [lineRead, if_pos hlt] at h
      by_cases hb : blankB (ln[k]?.getD 0) = true
      · rw [if_pos hb] at h
        exact lineRead_ext g _ _ _ h
      · rw [if_neg hb] at h
        cases hn : nextRead (ln.drop k) with
        | bad e => rw [hn] at h; cases h
        | good kd t n d x m =>
          rw [hn] at h
          rw [lineStep_good] at h
          by_cases hf : acc.length = 4000
          · rw [if_pos hf] at h; cases h
          · rw [if_neg hf] at h
            obtain ⟨y, hy⟩ := lineRead_ext g _ _ _ h
            exact ⟨_, by rw [hy, List.append_assoc]⟩
    · rw [lineRead_end hlt] at h
      injection h with h
      exact ⟨[], by rw [h, List.append_nil]⟩
theorem lineRead_grow {i : Nat} {ln : List UInt8} {g k : Nat} {acc l : List Tok} (h : lineRead i ln g k acc = .good l) (hs : l.length = acc.length) : l = acc := by
  obtain ⟨x, rfl⟩ := lineRead_ext g k acc l h
  have : x = [] := by simpa using hs
  rw [this, List.append_nil]
theorem linesRead_inc : ∀ (ws : List (List UInt8)) (i : Nat) (acc l : List Tok), Inc acc → (∀ a, acc.getLast? = some a → a.line < (i : Int) + 1 ∧ a.kind = 6) → linesRead i ws acc = .good l → Inc l
  | [], _, _, _, hi, _, h => by injection h with h; subst h; exact hi
  | t :: r, i, acc, l, hi, hL, h => by
    cases hl : lineRead i (cutSemi t) (t.length + 1) 0 acc with
    | bad c e => rw [linesRead_bad hl] at h; cases h
    | good m =>
      obtain ⟨h1, h2⟩ := lineRead_inc _ 0 acc m hi (fun a ha => .inr (hL a ha)) (Nat.zero_le _) hl
      have hct := cutSemi_len t
      by_cases hs : m.length = acc.length
      · rw [linesRead_same hl hs] at h
        have hsame : m = acc := lineRead_grow hl hs
        subst hsame
        exact linesRead_inc r (i + 1) m l hi (fun a ha => ⟨by have := (hL a ha).1; omega, (hL a ha).2⟩) h
      · by_cases h4 : m.length = 4000
        · rw [linesRead_full hl hs h4] at h; cases h
        · rw [linesRead_more hl hs h4] at h
          refine linesRead_inc r (i + 1) _ l (h1.snoc fun a ha => ?_) (fun a ha => ?_) h
          · rcases h2 a ha with h | h
            · exact .inl ⟨h.1, by show _ < (t.length : Int) + 1; omega⟩
            · exact .inr ⟨h.1, h.2⟩
          · rw [List.getLast?_append] at ha
            simp at ha
            subst ha
            exact ⟨by show (i : Int) + 1 < _; omega, rfl⟩
/-! ### The text of the lines -/

def sumL (ws : List (List UInt8)) : Nat := (ws.map fun t => t.length + 1).sum
theorem sumL_cons (t : List UInt8) (r : List (List UInt8)) : sumL (t :: r) = t.length + 1 + sumL r := by simp [sumL]
theorem sumL_append (a b : List (List UInt8)) : sumL (a ++ b) = sumL a + sumL b := by simp [sumL]
theorem join_sum (b : UInt8) : ∀ ws : List (List UInt8), (Lib.join ws [b]).length ≤ sumL ws
  | [] => by simp [Lib.join, sumL]
  | [t] => by rw [sumL_cons]; simp [Lib.join]; omega
  | t :: u :: r => by
    have ih := join_sum b (u :: r)
    rw [sumL_cons]
    have e : Lib.join (t :: u :: r) [b] = t ++ [b] ++ Lib.join (u :: r) [b] := by simp [Lib.join]
    rw [e]
    simp only [List.length_append, List.length_singleton]
    omega
theorem cutAll_sum (b : UInt8) : ∀ s, sumL (cutAll b s) = s.length + 1
  | [] => rfl
  | c :: t => by
    have ih := cutAll_sum b t
    by_cases hc : c = b
    · subst hc
      rw [cutAll_hit, sumL_cons, ih]
      simp; omega
    · cases hq : cutAll b t with
      | nil => exact absurd hq (cutAll_ne b t)
      | cons a r =>
        rw [cutAll_miss hc hq, sumL_cons]
        rw [hq, sumL_cons] at ih
        simp only [List.length_cons]
        omega
theorem blkB_sum : ∀ (bs : List (Bool × Bool)) (ws : List (List UInt8)), sumL (blkB bs ws) ≤ sumL ws + 14 * ws.length
  | [], ws => by simp [blkB, sumL]
  | _ :: _, [] => by simp [blkB, sumL]
  | b :: bs, t :: r => by
    have ih := blkB_sum bs r
    rw [blkB, sumL_cons, sumL_append, sumL_cons, List.length_cons]
    have h1 : (deco b.1 t).length ≤ t.length + 8 := by unfold deco; split <;> simp
    have h2 : sumL (extra b.2) ≤ 6 := by unfold extra; split <;> simp [sumL]
    omega
theorem blkB_len : ∀ (bs : List (Bool × Bool)) (ws : List (List UInt8)), (blkB bs ws).length ≤ 2 * ws.length
  | [], ws => by simp [blkB]
  | _ :: _, [] => by simp [blkB]
  | b :: bs, t :: r => by
    have ih := blkB_len bs r
    rw [blkB, List.length_cons, List.length_append, List.length_cons]
    have h2 : (extra b.2).length ≤ 1 := by unfold extra; split <;> simp
    omega
theorem blkB_free : ∀ (bs : List (Bool × Bool)) (ws : List (List UInt8)), (∀ t ∈ ws, ∀ c ∈ t, c ≠ 10) → ∀ t ∈ blkB bs ws, ∀ c ∈ t, c ≠ 10
  | [], ws, _, t, h => by simp [blkB] at h
  | _ :: _, [], _, t, h => by simp [blkB] at h
  | b :: bs, u :: r, hw, t, h => by
    rw [blkB] at h
    rcases List.mem_cons.1 h with rfl | h
    · intro c hc
      unfold deco at hc
      split at hc
      · simp only [List.mem_append, List.mem_cons, List.not_mem_nil, or_false] at hc
        rcases hc with ((rfl | rfl) | hc) | rfl | rfl | rfl | rfl | rfl | rfl
        · decide
        · decide
        · exact hw u (by simp) c hc
        all_goals decide
      · exact hw u (by simp) c hc
    · rcases List.mem_append.1 h with h | h
      · intro c hc
        unfold extra at h
        split at h
        · simp only [List.mem_cons, List.not_mem_nil, or_false] at h
          subst h
          simp only [List.mem_cons, List.not_mem_nil, or_false] at hc
          rcases hc with rfl | rfl | rfl | rfl | rfl <;> decide
        · simp at h
      · exact blkB_free bs r (fun t ht => hw t (by simp [ht])) t h
theorem blkB_ne {bs : List (Bool × Bool)} {ws : List (List UInt8)} (h : bs.length = ws.length) (h0 : ws ≠ []) : blkB bs ws ≠ [] := by
  match bs, ws, h with
  | [], [], _ => exact absurd rfl h0
  | b :: bs, t :: r, _ => rw [blkB]; simp

/-- The law of LexerBlanks. -/
theorem blanks_law {s : List UInt8} (hs : s.length ≤ 300) {bs : List (Bool × Bool)} (hb : bs.length = (cutAll 10 s).length) {l : List Tok} (h : scanRead s = .good l) :
    (Lib.join (blkB bs (cutAll 10 s)) [10]).length ≤ 5000 ∧ ∃ m, scanRead (Lib.join (blkB bs (cutAll 10 s)) [10]) = .good m ∧ cores l = cores m := by
  have h1 := cutAll_sum 10 s
  have h2 := cutAll_len 10 s
  have h3 := blkB_sum bs (cutAll 10 s)
  have h4 := join_sum 10 (blkB bs (cutAll 10 s))
  have hj : (Lib.join (blkB bs (cutAll 10 s)) [10]).length ≤ 5000 := by omega
  refine ⟨hj, ?_⟩
  rw [scanRead, if_neg (by omega)] at h
  obtain ⟨m, h5, h6⟩ := linesRead_blk (cutAll 10 s) bs 0 0 [] [] l hb rfl h
  refine ⟨m, ?_, h6⟩
  rw [scanRead, if_neg (by omega), cutAll_join 10 _ (blkB_ne hb (cutAll_ne 10 s)) (blkB_free bs _ (cutAll_free 10 s))]
  exact h5
theorem scan_inc {s : List UInt8} {l : List Tok} (h : scanRead s = .good l) : Inc l := by
  unfold scanRead at h
  split at h
  · cases h
  · exact linesRead_inc _ 0 [] l (fun k a b h1 => by simp at h1) (fun a ha => by simp at ha) h

end Go.Proofs.YtagfnnongamneaaGreatDoor
