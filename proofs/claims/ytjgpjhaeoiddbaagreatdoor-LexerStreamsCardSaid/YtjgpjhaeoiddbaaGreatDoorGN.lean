/- Comparing rows and tokens. slices.EqualFunc over tokens. (*strings.Builder).copyCheck, WriteByte, WriteString (the kit's shelf does not lay them over this seat: copyCheck's last branch is cut away here). After the kit's own proofs in Derived/Shelf/Strings/Builder1. lexer.Text. The lexer in plain words: the texts of the chapter's example. schismalaw47.known. -/
import Derived.Test.YtjgpjhaeoiddbaaGreatDoorGL
import Derived.Test.YtjgpjhaeoiddbaaGreatDoorGG
import Derived.Laws.StructEq
import Derived.Test.YtjgpjhaeoiddbaaGreatDoorSayG
import Derived.Test.YtjgpjhaeoiddbaaGreatDoorGE
import Derived.Shelf.Strings.Builder1
import Derived.Test.YtjgpjhaeoiddbaaGreatDoorGK
import Derived.Test.YtjgpjhaeoiddbaaGreatDoorGM
namespace Go.Proofs.YtjgpjhaeoiddbaaGreatDoor
open Go.RowKit Go.Lib

set_option maxHeartbeats 1000000 in
theorem slEq_any (xv yv : Value) (x y : List Int) (w : World) (hx : IsRow w w.heap.size xv x) (hy : IsRow w w.heap.size yv y) :
    Calls Tryz.prog 58 #[xv, yv] w fun e w' => e = .returned (.bool (sameB x y)) ∧ Below w.heap.size w w' := by
  have HS : Hid (sameB x y = decide (x = y)) := rfl
  obtain ⟨AX, cx, rfl, hxc, hxm, hxr⟩ := hx
  obtain ⟨AY, cy, rfl, hyc, hym, hyr⟩ := hy
  unfold maxLen at hxm hym
  by_cases hl : x.length = y.length
  · have hne : ((x.length : Int) != (y.length : Int)) = false := by simp [hl]
    have HL := Lib.hid hl
    have hxl : x.length ≤ 9223372036854775807 := by omega
    clear hl hxc hyc hxm hym
    go_enter Tryz.func58, Tryz.ntmps58
    go_wp2
    go_loopw [5, 13] (fun _ i wr => ∃ k : Nat, k ≤ x.length ∧ i = .int .i64 k ∧ Box (x.take k = y.take k) ∧ Below w.heap.size w wr) (fun _ i _ => x.length - (intOf i).toNat)
    case atStart => exact ⟨0, Nat.zero_le _, rfl, ⟨by simp⟩, Below.refl _ _⟩
    case round =>
      obtain ⟨k, hk, rfl, HT, hbw⟩ := hrel
      by_cases hlt : k < x.length
      · obtain ⟨ad1, rfl, _, hc1⟩ := (hxr.below hbw (Nat.le_refl _)).i_at hlt
        have hly : k < y.length := by rw [← HL.out]; exact hlt
        obtain ⟨ad2, rfl, _, hc2⟩ := (hyr.below hbw (Nat.le_refl _)).i_at hly
        have hup := fun he => same_upto HL.out HT.out hlt he
        have hdn : x[k]?.getD 0 ≠ y[k]?.getD 0 → x ≠ y := fun h e => h (by rw [e])
        generalize x[k]?.getD 0 = a at *
        generalize y[k]?.getD 0 = b at *
        have HU := Lib.hid hup
        have HDN := Lib.hid hdn
        clear hup hdn
        have hk1 : (0 : Int) ≤ (k : Int) := by omega
        have hk2 : (k : Int) < (x.length : Int) := by omega
        have hk3 : (k : Int) < (y.length : Int) := by omega
        by_cases hab : a = b
        · have hab' : (a != b) = false := by simp [hab]
          have HAB : Box (a = b) := ⟨hab⟩
          clear hab
          go_wp2
          go_quiet (fail)
          go_wp2
          go_roundw
          case rel => exact ⟨k + 1, by omega, by go_num, ⟨HU.out HAB.out⟩, below_drewN hbw _⟩
          case measure => simp [intOf]; omega
        · have hab' : (a != b) = true := by simp [hab]
          have HE : Box (sameB x y = false) := ⟨by rw [HS.out, decide_eq_false (HDN.out hab)]⟩
          go_wp2
          go_quiet (fail)
          go_wp2
          go_ret
          exact ⟨ret1 (congrArg Value.bool HE.out.symm), below_drewN hbw _⟩
      · obtain rfl : k = x.length := by omega
        have HE : Box (sameB x y = true) := ⟨by
          have h := HT.out
          rw [List.take_of_length_le (Nat.le_refl _), List.take_of_length_le (by rw [HL.out]; exact Nat.le_refl _)] at h
          rw [HS.out, decide_eq_true h]⟩
        go_wp2
        go_ret
        exact ⟨ret1 (congrArg Value.bool HE.out.symm), hbw⟩
  · have hne : ((x.length : Int) != (y.length : Int)) = true := by rw [bne_iff_ne]; omega
    have HE : Box (sameB x y = false) := ⟨by rw [HS.out, decide_eq_false (fun e => hl (by rw [e]))]⟩
    go_enter Tryz.func58, Tryz.ntmps58
    go_wp2
    go_ret
    exact ⟨ret1 (congrArg Value.bool HE.out.symm), Below.refl _ _⟩


theorem rowEqual_any (xv yv : Value) (x y : List Int) (w : World) (hx : IsRow w w.heap.size xv x) (hy : IsRow w w.heap.size yv y) :
    Calls Tryz.prog 54 #[xv, yv] w fun e w' => e = .returned (.bool (sameB x y)) ∧ Below w.heap.size w w' := by
  have HE := Lib.hid (slEq_any xv yv x y w hx hy)
  generalize sameB x y = b at *
  obtain ⟨AX, cx, rfl, _⟩ := hx
  obtain ⟨AY, cy, rfl, _⟩ := hy
  go_enter Tryz.func54, Tryz.ntmps54
  go_wp2_with fail
  refine HE.out.mono ?_
  rintro e w1 ⟨rfl, hb1⟩
  go_wp2_with fail
  go_ret
  exact ⟨rfl, hb1⟩

/-- Whether two tokens are equal but for their places. -/
def tokEq (a b : Tok) : Bool := decide (a.kind = b.kind) && (a.text == b.text) && (a.num == b.num && a.den == b.den) && sameB a.row b.row

set_option maxRecDepth 100000 in
set_option maxHeartbeats 2000000 in
theorem lexEqual_any (a b : Tok) (ra rb : Value) (w : World) (ha : IsRow w w.heap.size ra a.row) (hb : IsRow w w.heap.size rb b.row) :
    Calls Tryz.prog 100 #[.agg #[.int .i64 a.kind, .string ⟨a.text.toArray⟩, .string ⟨a.num.toArray⟩, .string ⟨a.den.toArray⟩, ra, .int .i64 a.line, .int .i64 a.col], .agg #[.int .i64 b.kind, .string ⟨b.text.toArray⟩, .string ⟨b.num.toArray⟩, .string ⟨b.den.toArray⟩, rb, .int .i64 b.line, .int .i64 b.col]] w fun e w' => e = .returned (.bool (tokEq a b)) ∧ Below w.heap.size w w' := by
  obtain ⟨ka, ta, na, da, xa, la, ca⟩ := a
  obtain ⟨kb, tb, nb, db, xb, lb, cb⟩ := b
  have HR := Lib.hid (fun W h1 h2 => rowEqual_any ra rb xa xb W h1 h2)
  have HA := Lib.hid ha
  have HB := Lib.hid hb
  have HE : Box (tokEq ⟨ka, ta, na, da, xa, la, ca⟩ ⟨kb, tb, nb, db, xb, lb, cb⟩ = (decide (ka = kb) && (ta == tb) && (na == nb && da == db) && sameB xa xb)) := ⟨rfl⟩
  obtain ⟨AX, cx, rfl, _⟩ := ha
  obtain ⟨AY, cy, rfl, _⟩ := hb
  generalize tokEq ⟨ka, ta, na, da, xa, la, ca⟩ ⟨kb, tb, nb, db, xb, lb, cb⟩ = out at *
  dsimp only at HA HB ⊢
  by_cases h1 : ka = kb
  · subst h1
    by_cases h2 : ta = tb
    · subst h2
      by_cases h3 : na = nb
      · subst h3
        by_cases h4 : da = db
        · subst h4
          have HF : Box (out = sameB xa xb) := ⟨by rw [HE.out]; simp⟩
          clear HE
          generalize sameB xa xb = sb at *
          go_enter Tryz.func100, Tryz.ntmps100
          go_wp2_with fail
          have hba : Below w.heap.size w ((w.alloc (.cells #[.int .i64 ka, .string ⟨ta.toArray⟩, .string ⟨na.toArray⟩, .string ⟨da.toArray⟩, .slice AX xa.length cx, .int .i64 la, .int .i64 ca] 38)).alloc (.cells #[.int .i64 ka, .string ⟨ta.toArray⟩, .string ⟨na.toArray⟩, .string ⟨da.toArray⟩, .slice AY xb.length cy, .int .i64 lb, .int .i64 cb] 38)) := ((Below.refl _ _).alloc (Nat.le_refl _) _).alloc (by simp) _
          refine (HR.out _ (HA.out.lift hba) (HB.out.lift hba)).mono ?_
          rintro e w1 ⟨rfl, hb1⟩
          have hbw := hba.trans (hb1.mono hba.size)
          clear hb1 hba
          go_wp2_with fail
          go_ret
          exact ⟨ret1 (congrArg Value.bool HF.out.symm), hbw⟩
        · have h4' : (da == db) = false := by simpa using h4
          have HF : Box (out = false) := ⟨by rw [HE.out, h4']; simp⟩
          clear HE HR
          go_enter Tryz.func100, Tryz.ntmps100
          go_wp2_with fail
          go_ret
          exact ⟨ret1 (congrArg Value.bool HF.out.symm), ((Below.refl _ _).alloc (Nat.le_refl _) _).alloc (by simp) _⟩
      · have h3' : (na == nb) = false := by simpa using h3
        have HF : Box (out = false) := ⟨by rw [HE.out, h3']; simp⟩
        clear HE HR
        go_enter Tryz.func100, Tryz.ntmps100
        go_wp2_with fail
        go_ret
        exact ⟨ret1 (congrArg Value.bool HF.out.symm), ((Below.refl _ _).alloc (Nat.le_refl _) _).alloc (by simp) _⟩
    · have h2' : (ta == tb) = false := by simpa using h2
      have HF : Box (out = false) := ⟨by rw [HE.out, h2']; simp⟩
      clear HE HR
      go_enter Tryz.func100, Tryz.ntmps100
      go_wp2_with fail
      go_ret
      exact ⟨ret1 (congrArg Value.bool HF.out.symm), ((Below.refl _ _).alloc (Nat.le_refl _) _).alloc (by simp) _⟩
  · have h1' : (ka == kb) = false := by simpa using h1
    have HF : Box (out = false) := ⟨by rw [HE.out, decide_eq_false h1]; simp⟩
    clear HE HR
    go_enter Tryz.func100, Tryz.ntmps100
    go_wp2_with fail
    go_ret
    exact ⟨ret1 (congrArg Value.bool HF.out.symm), ((Below.refl _ _).alloc (Nat.le_refl _) _).alloc (by simp) _⟩

set_option maxRecDepth 100000 in
set_option maxHeartbeats 2000000 in
theorem lawEqual_any (a b : Tok) (ra rb : Value) (w : World) (ha : IsRow w w.heap.size ra a.row) (hb : IsRow w w.heap.size rb b.row) :
    Calls Tryz.prog 17 #[.agg #[.int .i64 a.kind, .string ⟨a.text.toArray⟩, .string ⟨a.num.toArray⟩, .string ⟨a.den.toArray⟩, ra, .int .i64 a.line, .int .i64 a.col], .agg #[.int .i64 b.kind, .string ⟨b.text.toArray⟩, .string ⟨b.num.toArray⟩, .string ⟨b.den.toArray⟩, rb, .int .i64 b.line, .int .i64 b.col]] w fun e w' => e = .returned (.bool (tokEq a b)) ∧ Below w.heap.size w w' := by
  obtain ⟨ka, ta, na, da, xa, la, ca⟩ := a
  obtain ⟨kb, tb, nb, db, xb, lb, cb⟩ := b
  have HR := Lib.hid (fun W h1 h2 => slEq_any ra rb xa xb W h1 h2)
  have HA := Lib.hid ha
  have HB := Lib.hid hb
  have HE : Box (tokEq ⟨ka, ta, na, da, xa, la, ca⟩ ⟨kb, tb, nb, db, xb, lb, cb⟩ = (decide (ka = kb) && (ta == tb) && (na == nb && da == db) && sameB xa xb)) := ⟨rfl⟩
  obtain ⟨AX, cx, rfl, _⟩ := ha
  obtain ⟨AY, cy, rfl, _⟩ := hb
  generalize tokEq ⟨ka, ta, na, da, xa, la, ca⟩ ⟨kb, tb, nb, db, xb, lb, cb⟩ = out at *
  dsimp only at HA HB ⊢
  by_cases h1 : ka = kb
  · subst h1
    by_cases h2 : ta = tb
    · subst h2
      by_cases h3 : na = nb
      · subst h3
        by_cases h4 : da = db
        · subst h4
          have HF : Box (out = sameB xa xb) := ⟨by rw [HE.out]; simp⟩
          clear HE
          generalize sameB xa xb = sb at *
          go_enter Tryz.func17, Tryz.ntmps17
          go_wp2_with fail
          have hba : Below w.heap.size w ((w.alloc (.cells #[.int .i64 ka, .string ⟨ta.toArray⟩, .string ⟨na.toArray⟩, .string ⟨da.toArray⟩, .slice AX xa.length cx, .int .i64 la, .int .i64 ca] 38)).alloc (.cells #[.int .i64 ka, .string ⟨ta.toArray⟩, .string ⟨na.toArray⟩, .string ⟨da.toArray⟩, .slice AY xb.length cy, .int .i64 lb, .int .i64 cb] 38)) := ((Below.refl _ _).alloc (Nat.le_refl _) _).alloc (by simp) _
          refine (HR.out _ (HA.out.lift hba) (HB.out.lift hba)).mono ?_
          rintro e w1 ⟨rfl, hb1⟩
          have hbw := hba.trans (hb1.mono hba.size)
          clear hb1 hba
          go_wp2_with fail
          go_ret
          exact ⟨ret1 (congrArg Value.bool HF.out.symm), hbw⟩
        · have h4' : (da == db) = false := by simpa using h4
          have HF : Box (out = false) := ⟨by rw [HE.out, h4']; simp⟩
          clear HE HR
          go_enter Tryz.func17, Tryz.ntmps17
          go_wp2_with fail
          go_ret
          exact ⟨ret1 (congrArg Value.bool HF.out.symm), ((Below.refl _ _).alloc (Nat.le_refl _) _).alloc (by simp) _⟩
      · have h3' : (na == nb) = false := by simpa using h3
        have HF : Box (out = false) := ⟨by rw [HE.out, h3']; simp⟩
        clear HE HR
        go_enter Tryz.func17, Tryz.ntmps17
        go_wp2_with fail
        go_ret
        exact ⟨ret1 (congrArg Value.bool HF.out.symm), ((Below.refl _ _).alloc (Nat.le_refl _) _).alloc (by simp) _⟩
    · have h2' : (ta == tb) = false := by simpa using h2
      have HF : Box (out = false) := ⟨by rw [HE.out, h2']; simp⟩
      clear HE HR
      go_enter Tryz.func17, Tryz.ntmps17
      go_wp2_with fail
      go_ret
      exact ⟨ret1 (congrArg Value.bool HF.out.symm), ((Below.refl _ _).alloc (Nat.le_refl _) _).alloc (by simp) _⟩
  · have h1' : (ka == kb) = false := by simpa using h1
    have HF : Box (out = false) := ⟨by rw [HE.out, decide_eq_false h1]; simp⟩
    clear HE HR
    go_enter Tryz.func17, Tryz.ntmps17
    go_wp2_with fail
    go_ret
    exact ⟨ret1 (congrArg Value.bool HF.out.symm), ((Below.refl _ _).alloc (Nat.le_refl _) _).alloc (by simp) _⟩

end Go.Proofs.YtjgpjhaeoiddbaaGreatDoor

namespace Go.Proofs.YtjgpjhaeoiddbaaGreatDoor
open Go.RowKit Go.Lib

theorem IsToks.at_ {w : World} {B : Nat} {A : Option Addr} {n c k : Nat} {l : List Tok} (h : IsToks w B (.slice A n c) l) (hk : k < l.length) : ∃ b o rv, A = some ⟨b, o, Option.none⟩ ∧ b < B ∧ IsRow w B rv (l[k]'hk).row ∧ ∀ j, j < 7 → w.cell? ⟨b, o + k * 7 + j, Option.none⟩ = (tokVals (l[k]'hk) rv)[j]? := by
  obtain ⟨A', c', rvs, e, h1, h2, h3, h4, h5⟩ := h
  injection e with e1 e2 e3
  subst e1
  have hr : k < rvs.length := by omega
  have hget : ∀ j, j < 7 → ∃ ad, A = some ad ∧ ad.block < B ∧ w.cell? (ad.add (k * 7 + j)) = (tokVals (l[k]'hk) (rvs[k]'hr))[j]? := by
    intro j hj
    have hf := flat_get l rvs k _ _ j h3 (List.getElem?_eq_getElem hk) (List.getElem?_eq_getElem hr) hj
    have hs : (tokVals (l[k]'hk) (rvs[k]'hr))[j]? = some ((tokVals (l[k]'hk) (rvs[k]'hr))[j]'(by show j < 7; exact hj)) := List.getElem?_eq_getElem _
    rw [hs] at hf ⊢
    obtain ⟨ad, ha, hb, hc⟩ := h4.get _ _ hf
    exact ⟨ad, ha, hb, hc⟩
  obtain ⟨ad, rfl, hb, hc0⟩ := hget 0 (by omega)
  have hpl : ∃ b o, ad = ⟨b, o, Option.none⟩ := by
    have h0l : 0 < (flat l rvs).length := by rw [flat_len l rvs h3]; omega
    obtain ⟨ad2, e2, _, hc2⟩ := h4.get 0 _ (List.getElem?_eq_getElem h0l)
    injection e2 with e2
    subst e2
    have hz : ad.add 0 = ad := by unfold Addr.add; simp
    rw [hz] at hc2
    exact addr_plain hc2
  obtain ⟨b, o, rfl⟩ := hpl
  refine ⟨b, o, rvs[k]'hr, rfl, hb, h5 k _ _ (List.getElem?_eq_getElem hk) (List.getElem?_eq_getElem hr), fun j hj => ?_⟩
  obtain ⟨ad, e, _, hc⟩ := hget j hj
  injection e with e
  subst e
  rw [Lib.add_plain, ← Nat.add_assoc] at hc
  exact hc

def toksEq : List Tok → List Tok → Bool
  | [], [] => true
  | a :: l, b :: m => tokEq a b && toksEq l m
  | _, _ => false
theorem toksEq_len : ∀ l m, l.length ≠ m.length → toksEq l m = false
  | [], [], h => absurd rfl h
  | [], _ :: _, _ => rfl
  | _ :: _, [], _ => rfl
  | a :: l, b :: m, h => by rw [toksEq, toksEq_len l m (by simpa using h), Bool.and_false]
theorem toksEq_drop {l m : List Tok} {k : Nat} (h1 : k < l.length) (h2 : k < m.length) : toksEq (l.drop k) (m.drop k) = (tokEq (l[k]'h1) (m[k]'h2) && toksEq (l.drop (k + 1)) (m.drop (k + 1))) := by
  rw [List.drop_eq_getElem_cons h1, List.drop_eq_getElem_cons h2, toksEq]

set_option maxRecDepth 100000 in
set_option maxHeartbeats 2000000 in
theorem equalFunc_lex (v1 v2 : Value) (l m : List Tok) (w : World) (h1 : IsToks w w.heap.size v1 l) (h2 : IsToks w w.heap.size v2 m) :
    Calls Tryz.prog 99 #[v1, v2, .func (.func 100) #[] #[]] w fun e w' => e = .returned (.bool (toksEq l m)) ∧ Below w.heap.size w w' := by
  have H1 := Lib.hid h1
  have H2 := Lib.hid h2
  obtain ⟨AX, cx, _, rfl, hc1, hc2, _⟩ := h1
  have hl : l.length ≤ 9223372036854775807 := by unfold maxLen at hc2; omega
  clear hc1 hc2
  obtain ⟨AY, cy, _, rfl, _⟩ := h2
  by_cases hlm : l.length = m.length
  · have hne : ((l.length : Int) != (m.length : Int)) = false := by simp [hlm]
    have HLM : Box (l.length = m.length) := ⟨hlm⟩
    clear hlm
    obtain ⟨out, HO⟩ : ∃ out, Box (toksEq (l.drop 0) (m.drop 0) = out ∧ toksEq l m = out) := ⟨_, ⟨rfl, rfl⟩⟩
    rw [HO.out.2]
    go_enter Tryz.func99, Tryz.ntmps99
    go_wp2_with fail
    go_loopw [17] (fun i wr => ∃ k : Nat, k ≤ l.length ∧ i = .int .i64 k ∧ Box (toksEq (l.drop k) (m.drop k) = out) ∧ Below w.heap.size w wr) (fun i _ => l.length - (intOf i).toNat)
    case atStart => exact ⟨0, Nat.zero_le _, rfl, ⟨HO.out.1⟩, Below.refl _ _⟩
    case round =>
      obtain ⟨k, hk, rfl, HK, hbw⟩ := hrel
      by_cases hlt : k < l.length
      · have hlt2 : k < m.length := by rw [← HLM.out]; exact hlt
        obtain ⟨b1, o1, r1, rfl, hb1, hr1, hc1⟩ := (H1.out.lift hbw).at_ hlt
        obtain ⟨b2, o2, r2, rfl, hb2, hr2, hc2⟩ := (H2.out.lift hbw).at_ hlt2
        have HS : Box (out = (tokEq (l[k]'hlt) (m[k]'hlt2) && toksEq (l.drop (k + 1)) (m.drop (k + 1)))) := ⟨by rw [← HK.out, toksEq_drop hlt hlt2]⟩
        have HE := Lib.hid (fun W h1 h2 => lexEqual_any (l[k]'hlt) (m[k]'hlt2) r1 r2 W h1 h2)
        generalize l[k]'hlt = t1 at *
        generalize m[k]'hlt2 = t2 at *
        have HR1 := Lib.hid hr1
        have HR2 := Lib.hid hr2
        obtain ⟨A1, C1, e1, _⟩ := hr1
        subst e1
        obtain ⟨A2, C2, e2, _⟩ := hr2
        subst e2
        generalize tokEq t1 t2 = tb at *
        have p0 := hc1 0 (by omega)
        have p1 := hc1 1 (by omega)
        have p2 := hc1 2 (by omega)
        have p3 := hc1 3 (by omega)
        have p4 := hc1 4 (by omega)
        have p5 := hc1 5 (by omega)
        have p6 := hc1 6 (by omega)
        simp only [tokVals, List.getElem?_cons_succ, List.getElem?_cons_zero, Nat.add_zero] at p0 p1 p2 p3 p4 p5 p6
        have q0 := hc2 0 (by omega)
        have q1 := hc2 1 (by omega)
        have q2 := hc2 2 (by omega)
        have q3 := hc2 3 (by omega)
        have q4 := hc2 4 (by omega)
        have q5 := hc2 5 (by omega)
        have q6 := hc2 6 (by omega)
        simp only [tokVals, List.getElem?_cons_succ, List.getElem?_cons_zero, Nat.add_zero] at q0 q1 q2 q3 q4 q5 q6
        have hk2 : (k : Int) < (m.length : Int) := by omega
        clear hc1 hc2
        cases tb with
        | false =>
          have HF : Box (out = false) := ⟨by rw [HS.out]; rfl⟩
          clear HS HK HO
          go_wp2_with fail
          have hba : Below wr.heap.size wr ((wr.alloc (.cells #[.int .i64 t1.kind, .string ⟨t1.text.toArray⟩, .string ⟨t1.num.toArray⟩, .string ⟨t1.den.toArray⟩, .slice A1 t1.row.length C1, .int .i64 t1.line, .int .i64 t1.col] 38)).alloc (.cells #[.int .i64 t2.kind, .string ⟨t2.text.toArray⟩, .string ⟨t2.num.toArray⟩, .string ⟨t2.den.toArray⟩, .slice A2 t2.row.length C2, .int .i64 t2.line, .int .i64 t2.col] 38)) := ((Below.refl _ _).alloc (Nat.le_refl _) _).alloc (by simp) _
          refine (HE.out _ (HR1.out.lift hba) (HR2.out.lift hba)).mono ?_
          rintro e w1 ⟨rfl, hb1⟩
          have hbn := hbw.trans ((hba.trans (hb1.mono hba.size)).mono hbw.size)
          clear hb1 hba
          go_wp2_with fail
          go_ret
          exact ⟨ret1 (congrArg Value.bool HF.out.symm), hbn⟩
        | true =>
          have HF : Box (toksEq (l.drop (k + 1)) (m.drop (k + 1)) = out) := ⟨by rw [HS.out]; rfl⟩
          clear HS HK HO
          go_wp2_with fail
          have hba : Below wr.heap.size wr ((wr.alloc (.cells #[.int .i64 t1.kind, .string ⟨t1.text.toArray⟩, .string ⟨t1.num.toArray⟩, .string ⟨t1.den.toArray⟩, .slice A1 t1.row.length C1, .int .i64 t1.line, .int .i64 t1.col] 38)).alloc (.cells #[.int .i64 t2.kind, .string ⟨t2.text.toArray⟩, .string ⟨t2.num.toArray⟩, .string ⟨t2.den.toArray⟩, .slice A2 t2.row.length C2, .int .i64 t2.line, .int .i64 t2.col] 38)) := ((Below.refl _ _).alloc (Nat.le_refl _) _).alloc (by simp) _
          refine (HE.out _ (HR1.out.lift hba) (HR2.out.lift hba)).mono ?_
          rintro e w1 ⟨rfl, hb1⟩
          have hbn := hbw.trans ((hba.trans (hb1.mono hba.size)).mono hbw.size)
          clear hb1 hba
          go_wp2_with fail
          go_roundw
          case rel => exact ⟨k + 1, by omega, by go_num, HF, hbn⟩
          case measure => simp [intOf]; omega
      · obtain rfl : k = l.length := by omega
        have HF : Box (out = true) := ⟨by rw [← HK.out, List.drop_length, HLM.out, List.drop_length]; rfl⟩
        go_wp2_with fail
        go_ret
        exact ⟨ret1 (congrArg Value.bool HF.out.symm), hbw⟩
  · have hne : ((l.length : Int) != (m.length : Int)) = true := by rw [bne_iff_ne]; omega
    have HE : Box (toksEq l m = false) := ⟨toksEq_len l m hlm⟩
    go_enter Tryz.func99, Tryz.ntmps99
    go_wp2_with fail
    go_ret
    exact ⟨ret1 (congrArg Value.bool HE.out.symm), Below.refl _ _⟩

end Go.Proofs.YtjgpjhaeoiddbaaGreatDoor

namespace Go.Proofs.YtjgpjhaeoiddbaaGreatDoor
open Go.RowKit Go.Lib

theorem Tryz.info_byte : (Tryz.prog.info? 5).map (fun i => (i.zero, i.size, i.bytes)) = some (some (.int .u8 0), 1, 1) := by kernel_rfl
theorem Tryz.size_builder : (Tryz.prog.info? 141).map (fun i => i.size) = some 2 := by kernel_rfl

set_option maxHeartbeats 1000000 in
set_option maxRecDepth 100000 in
theorem copyCheck_used (b : Nat) (w : World) (h0 : w.cell? ⟨b, 0, Option.none⟩ = some (.pointer (some ⟨b, 0, Option.none⟩))) :
    Calls Tryz.prog 139 #[.pointer (some ⟨b, 0, Option.none⟩)] w fun e w' => e = .returned (.tuple #[]) ∧ w' = w := by
  obtain ⟨j, hj, _⟩ := Option.map_eq_some_iff.1 Tryz.size_builder
  go_enter Tryz.func139, Tryz.ntmps139
  go_wp2
  rw [Lib.run_neq_ptr_same w _ Tryz.underlying138 hj]
  go_wp2
  go_end0
  exact ⟨rfl, rfl⟩

set_option maxHeartbeats 1000000 in
set_option maxRecDepth 100000 in
theorem copyCheck_fresh (b : Nat) (w : World) (h0 : w.cell? ⟨b, 0, Option.none⟩ = some (.pointer Option.none)) (hsh : w.shape? b = some (141, 2)) (hfz : w.frozen? ⟨b, 0, Option.none⟩ = false) :
    Calls Tryz.prog 139 #[.pointer (some ⟨b, 0, Option.none⟩)] w fun e w' => e = .returned (.tuple #[]) ∧ w' = w.setCell ⟨b, 0, Option.none⟩ (.pointer (some ⟨b, 0, Option.none⟩)) := by
  obtain ⟨j, hj, hjs⟩ := Option.map_eq_some_iff.1 Tryz.size_builder
  go_enter Tryz.func139, Tryz.ntmps139
  go_wp2
  rw [Lib.run_to_unsafe w ⟨b, 0, Option.none⟩ Tryz.underlying138 Tryz.underlying231 hj (by rw [hjs]; decide) hsh (Nat.zero_lt_succ 1)]
  simp only [Result.andThen]
  rw [Oper.upon_value]
  go_wp2
  rw [run_callFunc_extern Tryz.func186 (by kernel_rfl) (by kernel_rfl) (by kernel_rfl) (e := Extern.AbiNoEscape.same) (by kernel_rfl)]
  rw [Lib.run_noEscape]
  simp only [Result.andThen]
  rw [Oper.upon_value]
  go_wp2
  rw [Lib.run_from_unsafe w ⟨b, 0, Option.none⟩ Tryz.underlying231 Tryz.underlying138 hj hsh (by kernel_rfl)]
  simp only [Result.andThen]
  rw [Oper.upon_value]
  go_wp2
  go_end0
  exact ⟨rfl, rfl⟩

/-- What a builder's writing leaves as it was: every block of cells that is neither a builder nor bytes. -/
def KeepB (w w' : World) : Prop := ∀ (g : Nat) (cur : Array Value) (T : TypeId) (p : Nat × Nat), w.heap[g]? = some (Obj.cells cur T p) → T ≠ 5 → T ≠ 141 → w'.heap[g]? = some (Obj.cells cur T p)
theorem KeepB.refl (w : World) : KeepB w w := fun _ _ _ _ h _ _ => h
theorem KeepB.trans {a b c : World} (h : KeepB a b) (k : KeepB b c) : KeepB a c := fun g cur T p h1 h2 h3 => k g cur T p (h g cur T p h1 h2 h3) h2 h3
theorem KeepB.alloc {a b : World} (h : KeepB a b) (o : Obj) : KeepB a (b.alloc o) := fun g cur T p h1 h2 h3 => by
  have h4 := h g cur T p h1 h2 h3
  rw [Below.heap_alloc b o g (Array.getElem?_eq_some_iff.1 h4).1]
  exact h4
theorem KeepB.set {a b : World} (h : KeepB a b) {k i : Nat} {cur0 : Array Value} {p0 : Nat × Nat} (hk : b.heap[k]? = some (Obj.cells cur0 141 p0)) (u : Value) : KeepB a (b.setCell ⟨k, i, Option.none⟩ u) := fun g cur T p h1 h2 h3 => by
  have h4 := h g cur T p h1 h2 h3
  rw [Below.heap_setCell _ _ _ _ (fun e => by
    change g = k at e
    subst e
    rw [hk] at h4
    injection h4 with h4
    injection h4 with _ h4 _
    exact h3 h4.symm)]
  exact h4
theorem KeepB.grown {a b c : World} (h : KeepB a b) {base n size : Nat} {u : Value} {xs : List Value} (ho : b.ownsRow base 5 size u n xs) (hg : b.grownBy c u.ownBlock) : KeepB a c := fun g cur T p h1 h2 h3 => by
  have h4 := h g cur T p h1 h2 h3
  rw [hg.block g (Array.getElem?_eq_some_iff.1 h4).1 (fun hu => by
    rcases ho.2 with ⟨rfl, _⟩ | ⟨g', cap, cur', rfl, _, hg', _⟩
    · cases hu
    · injection hu with hu
      change g = g' at hu
      subst hu
      rw [h4] at hg'
      injection hg' with hg'
      injection hg' with _ hg' _
      exact h2 hg')]
  exact h4

theorem copyCheck_any (B b : Nat) (bs : List Value) (w : World) (h : Lib.IsBuilder 141 5 B b bs w) :
    Calls Tryz.prog 139 #[.pointer (some ⟨b, 0, Option.none⟩)] w fun e w' => e = .returned (.tuple #[]) ∧ (Lib.BuilderAt 141 5 B b (.pointer (some ⟨b, 0, Option.none⟩)) bs w' ∧ Below B w w' ∧ KeepB w w') := by
  rcases h with h | h
  · refine (copyCheck_fresh b w h.cell0 h.shape h.frozen0).mono ?_
    rintro e w' ⟨rfl, rfl⟩
    have hbk := h
    obtain ⟨_, v, hbk, _⟩ := hbk
    exact ⟨rfl, h.used _, (Below.refl B w).setCell (p := ⟨b, 0, Option.none⟩) h.1 _, (KeepB.refl w).set hbk _⟩
  · refine (copyCheck_used b w h.cell0).mono ?_
    rintro e w' ⟨rfl, rfl⟩
    exact ⟨rfl, h, Below.refl B _, KeepB.refl _⟩

set_option maxHeartbeats 2000000 in
set_option maxRecDepth 100000 in
theorem writeByte_any (B b : Nat) (bs : List Value) (c : Int) (w : World) (h : Lib.IsBuilder 141 5 B b bs w) (hlen : bs.length + 1 ≤ 140737488355328) (hBw : B ≤ w.heap.size) :
    Calls Tryz.prog 96 #[.pointer (some ⟨b, 0, Option.none⟩), .int .u8 c] w fun e w' => e = .returned .nilIface ∧ (Lib.BuilderAt 141 5 B b (.pointer (some ⟨b, 0, Option.none⟩)) (bs ++ [.int .u8 c]) w' ∧ Below B w w' ∧ KeepB w w') := by
  obtain ⟨i0, hi, hz0, hz1, hz2⟩ := info_parts Tryz.info_byte
  have HC := Lib.hid (copyCheck_any B b bs w h)
  clear h
  go_enter Tryz.func96, Tryz.ntmps96
  go_wp2_with fail
  refine HC.out.mono ?_
  rintro e w1 ⟨rfl, h1, hb1, hkp⟩
  have HKP := Lib.hid hkp
  clear hkp
  obtain ⟨hB, v, hbk, hown, hne⟩ := h1
  have c0 : w1.cell? ⟨b, 0, Option.none⟩ = some (.pointer (some ⟨b, 0, Option.none⟩)) := by rw [Lib.cell_of_heap hbk]; rfl
  have c1 : w1.cell? ⟨b, 1, Option.none⟩ = some v := by rw [Lib.cell_of_heap hbk]; rfl
  go_wp2_with (at_builtin; refine wpList_append_own _ rfl _ _ 139 rfl B 5 i0 (.int .u8 0) 1 1 Tryz.underlying139 hi hz0 hz1 hz2 rfl (by decide) _ _ _ rfl (hown.alloc _) ⟨w1.heap.size, 0, Option.none⟩ 1 1 [.int .u8 c] rfl rfl (cell_one_new _ _ _) (by intro u hu; simp at hu; subst hu; rfl) (by unfold maxLen; omega) (by omega) (by have := hb1.size; simp; omega) ?_)
  intro v' w2 hown' hgrow _
  have hlt : b < w1.heap.size := by
    rcases Nat.lt_or_ge b w1.heap.size with h' | h'
    · exact h'
    · simp [Array.getElem?_eq_none h'] at hbk
  have hb2 : w2.heap[b]? = some (.cells #[.pointer (some ⟨b, 0, Option.none⟩), v] 141 (0, 0)) := by
    rw [hgrow.block b (by simp; omega) (fun e => hne e.symm), Lib.alloc_old w1 _ b hlt]
    exact hbk
  have d0 : w2.cell? ⟨b, 0, Option.none⟩ = some (.pointer (some ⟨b, 0, Option.none⟩)) := by rw [Lib.cell_of_heap hb2]; rfl
  have d1 : w2.cell? ⟨b, 1, Option.none⟩ = some v := by rw [Lib.cell_of_heap hb2]; rfl
  have f1 : w2.frozen? ⟨b, 1, Option.none⟩ = false := Lib.frozen_of_heap hb2 1
  obtain ⟨g, cap, rfl⟩ : ∃ g cap, v' = .slice (some ⟨g, 0, Option.none⟩) (bs.length + 1) cap := by
    rcases hown'.2 with ⟨_, h0⟩ | ⟨g, cap, cur, hv, _⟩
    · omega
    · exact ⟨g, cap, hv⟩
  go_wp2
  go_ret
  refine ⟨rfl, ?_, ?_, ?_⟩
  · exact Lib.BuilderAt.put (T := 141) (e := 5) hB hb2 (bs' := bs ++ [.int .u8 c]) (by simpa using hown') (by decide)
  · exact ((hb1.alloc (by have := hb1.size; omega) _).grown hgrow (by have := hb1.size; simp; omega) (fun k hk => (hown.lt k hk).1)).setCell (p := ⟨b, 1, Option.none⟩) hB _
  · exact ((HKP.out.alloc _).grown (hown.alloc _) hgrow).set hb2 _

set_option maxHeartbeats 2000000 in
set_option maxRecDepth 100000 in
theorem writeString_any (B b : Nat) (bs : List Value) (s : ByteArray) (w : World) (h : Lib.IsBuilder 141 5 B b bs w) (hlen : bs.length + s.size ≤ 140737488355328) (hBw : B ≤ w.heap.size) :
    Calls Tryz.prog 97 #[.pointer (some ⟨b, 0, Option.none⟩), .string s] w fun e w' => e = .returned (.tuple #[.int .i64 s.size, .nilIface]) ∧ (Lib.BuilderAt 141 5 B b (.pointer (some ⟨b, 0, Option.none⟩)) (bs ++ Lib.strCells s) w' ∧ Below B w w' ∧ KeepB w w') := by
  obtain ⟨i0, hi, hz0, hz1, hz2⟩ := info_parts Tryz.info_byte
  have HC := Lib.hid (copyCheck_any B b bs w h)
  clear h
  go_enter Tryz.func97, Tryz.ntmps97
  go_wp2_with fail
  refine HC.out.mono ?_
  rintro e w1 ⟨rfl, h1, hb1, hkp⟩
  have HKP := Lib.hid hkp
  clear hkp
  obtain ⟨hB, v, hbk, hown, hne⟩ := h1
  have c0 : w1.cell? ⟨b, 0, Option.none⟩ = some (.pointer (some ⟨b, 0, Option.none⟩)) := by rw [Lib.cell_of_heap hbk]; rfl
  have c1 : w1.cell? ⟨b, 1, Option.none⟩ = some v := by rw [Lib.cell_of_heap hbk]; rfl
  go_wp2_with (at_builtin; refine Lib.wpList_append_own_string _ rfl _ _ 139 9 rfl B 5 i0 Tryz.underlying139 Tryz.underlying9 hi hz0 hz1 hz2 _ _ _ rfl hown s rfl (by unfold maxLen; omega) (by omega) (by have := hb1.size; omega) ?_)
  intro v' w2 hown' hgrow _
  have hlt : b < w1.heap.size := by
    rcases Nat.lt_or_ge b w1.heap.size with h' | h'
    · exact h'
    · simp [Array.getElem?_eq_none h'] at hbk
  have hb2 : w2.heap[b]? = some (.cells #[.pointer (some ⟨b, 0, Option.none⟩), v] 141 (0, 0)) := by
    rw [hgrow.block b hlt (fun e => hne e.symm)]
    exact hbk
  have d0 : w2.cell? ⟨b, 0, Option.none⟩ = some (.pointer (some ⟨b, 0, Option.none⟩)) := by rw [Lib.cell_of_heap hb2]; rfl
  have d1 : w2.cell? ⟨b, 1, Option.none⟩ = some v := by rw [Lib.cell_of_heap hb2]; rfl
  have f1 : w2.frozen? ⟨b, 1, Option.none⟩ = false := Lib.frozen_of_heap hb2 1
  obtain ⟨ao, n', cap, rfl⟩ : ∃ ao n' cap, v' = .slice ao n' cap := by
    rcases hown'.2 with ⟨hv, _⟩ | ⟨g, cap, cur, hv, _⟩
    · exact ⟨_, _, _, hv⟩
    · exact ⟨_, _, _, hv⟩
  go_wp2
  go_ret2
  refine ⟨rfl, ?_, ?_, ?_⟩
  · exact Lib.BuilderAt.put (T := 141) (e := 5) hB hb2 (bs' := bs ++ Lib.strCells s) (by simpa [Lib.strCells_length] using hown') (by decide)
  · exact (hb1.grown hgrow (by have := hb1.size; omega) (fun k hk => (hown.lt k hk).1)).setCell (p := ⟨b, 1, Option.none⟩) hB _
  · exact (HKP.out.grown hown hgrow).set hb2 _

theorem builderString_any (B b : Nat) (l : List UInt8) (w : World) (h : Lib.IsBuilderF 141 5 B b (Lib.byteCells l) w) (hBw : B ≤ w.heap.size) :
    Calls Tryz.prog 98 #[.pointer (some ⟨b, 0, Option.none⟩)] w fun e w' => e = .returned (.string ⟨l.toArray⟩) ∧ (Lib.IsBuilderF 141 5 B b (Lib.byteCells l) w' ∧ Below B w w') := Tryz.Builder_String_any_f B b l w h hBw

end Go.Proofs.YtjgpjhaeoiddbaaGreatDoor

namespace Go.Proofs.YtjgpjhaeoiddbaaGreatDoor
open Go.RowKit Go.Lib

/-- The text of the first k tokens. -/
def textTo (l : List Tok) : Nat → List UInt8
  | 0 => []
  | k + 1 => textTo l k ++ (if 0 < k ∧ (l[k]?.map (·.kind)).getD 0 ≠ 6 ∧ (l[k - 1]?.map (·.kind)).getD 0 ≠ 6 then [32] else []) ++ (l[k]?.map (·.text)).getD []

theorem byteCells_len (l : List UInt8) : (Lib.byteCells l).length = l.length := by simp [Lib.byteCells]
theorem builder_below {T e : TypeId} {B b : Nat} {bs : List Value} {w w' : World} (h : Lib.IsBuilder T e B b bs w) (hb : Below w.heap.size w w') : Lib.IsBuilder T e B b bs w' := by
  have key : ∀ p, Lib.BuilderAt T e B b p bs w → Lib.BuilderAt T e B b p bs w' := fun p ⟨hB, v, hbk, hown, hne⟩ =>
    ⟨hB, v, (hb.block b (Array.getElem?_eq_some_iff.1 hbk).1).trans hbk, own_below hown hb, hne⟩
  exact h.elim (fun x => .inl (key _ x)) (fun x => .inr (key _ x))
theorem builderF_below {T e : TypeId} {B b : Nat} {bs : List Value} {w w' : World} (h : Lib.IsBuilderF T e B b bs w) (hb : Below w.heap.size w w') : Lib.IsBuilderF T e B b bs w' := by
  have key : ∀ p, Lib.BuilderAtF T e B b p bs w → Lib.BuilderAtF T e B b p bs w' := fun p ⟨hB, v, hbk, hown, hne⟩ => by
    refine ⟨hB, v, (hb.block b (Array.getElem?_eq_some_iff.1 hbk).1).trans hbk, ⟨hown.1, ?_⟩, hne⟩
    rcases hown.2 with hn | ⟨g, cap, cur, fz, hv, hB2, hg, rest⟩
    · exact .inl hn
    · exact .inr ⟨g, cap, cur, fz, hv, hB2, (hb.block g (Array.getElem?_eq_some_iff.1 hg).1).trans hg, rest⟩
  exact h.elim (fun x => .inl (key _ x)) (fun x => .inr (key _ x))
theorem cells_keep {w w' : World} {g : Nat} {T : TypeId} {xs : List Value} (h : Cells w g T xs) (hk : KeepB w w') (h1 : T ≠ 5) (h2 : T ≠ 141) : Cells w' g T xs := hk g _ T _ h h1 h2
theorem builder_eq {T e : TypeId} {B b : Nat} {a c : List UInt8} {w : World} (h : Lib.IsBuilder T e B b (Lib.byteCells a ++ Lib.strCells ⟨c.toArray⟩) w) : Lib.IsBuilder T e B b (Lib.byteCells (a ++ [] ++ c)) w := by
  rw [List.append_nil]
  have e1 : Lib.byteCells (a ++ c) = Lib.byteCells a ++ Lib.strCells ⟨c.toArray⟩ := by rw [Lib.strCells_toArray]; simp [Lib.byteCells]
  rw [e1]; exact h
theorem builder_eq2 {T e : TypeId} {B b : Nat} {a c : List UInt8} {w : World} (h : Lib.IsBuilder T e B b (Lib.byteCells a ++ [.int .u8 32] ++ Lib.strCells ⟨c.toArray⟩) w) : Lib.IsBuilder T e B b (Lib.byteCells (a ++ [32] ++ c)) w := by
  have e1 : Lib.byteCells (a ++ [32] ++ c) = Lib.byteCells a ++ [.int .u8 32] ++ Lib.strCells ⟨c.toArray⟩ := by rw [Lib.strCells_toArray]; simp [Lib.byteCells]
  rw [e1]; exact h

theorem lineRead_err {i : Nat} {ln : List UInt8} : ∀ (g k : Nat) (acc : List Tok) (c e : Int), lineRead i ln g k acc = .bad c e → e ≠ 0
  | 0, _, _, _, _, h => by cases h
  | g + 1, k, acc, c, e, h => by
    rw [lineRead] at h
    split at h
    · split at h
      · exact lineRead_err g _ _ _ _ h
      · cases hn : nextRead (ln.drop k) with
        | bad er =>
          rw [hn] at h
          injection h with _ h
          subst h
          exact nextRead_bad hn
        | good kd t n d x m =>
          rw [hn] at h
          change (if acc.length = 4000 then Lrd.bad (k + 1) 4 else _) = _ at h
          split at h
          · injection h with _ h; omega
          · exact lineRead_err g _ _ _ _ h
    · cases h
theorem linesRead_err : ∀ (ws : List (List UInt8)) (i : Nat) (acc : List Tok) (a b e : Int), linesRead i ws acc = .bad a b e → e ≠ 0
  | [], _, _, _, _, _, h => by cases h
  | full :: rest, i, acc, a, b, e, h => by
    rw [linesRead] at h
    split at h
    · rename_i hl
      injection h with _ _ h
      subst h
      exact lineRead_err _ _ _ _ _ hl
    · split at h
      · exact linesRead_err rest _ _ _ _ _ h
      · split at h
        · injection h with _ _ h; omega
        · exact linesRead_err rest _ _ _ _ _ h
theorem scanRead_bad {s : List UInt8} {a b e : Int} (h : scanRead s = .bad a b e) : e ≠ 0 := by
  unfold scanRead at h
  split at h
  · injection h with _ _ h; omega
  · exact linesRead_err _ _ _ _ _ _ h

/-- What Text returns. -/
def textOut (l : List Tok) : Srd → Value
  | .bad _ _ _ => .tuple #[.string ⟨#[]⟩, .int .i64 7]
  | .good own => if toksEq own l then .tuple #[.string ⟨(textTo l l.length).toArray⟩, .int .i64 0] else .tuple #[.string ⟨#[]⟩, .int .i64 7]

set_option maxRecDepth 100000 in
set_option maxHeartbeats 4000000 in
theorem text_any47 (v : Value) (l : List Tok) (w : World) (hS : Std w) (hL : LenIs w) (hv : IsToks w w.heap.size v l) (hn : l.length ≤ 4000) (hb : ∀ k, k ≤ l.length → (textTo l k).length ≤ 100000) :
    Calls Tryz.prog 56 #[v] w fun e w' => e = .returned (textOut l (scanRead (textTo l l.length))) ∧ Below w.heap.size w w' := by
  have HV := Lib.hid hv
  have HS0 := Lib.hid hS
  have HLI := Lib.hid hL
  obtain ⟨AX, cx, _, rfl, _⟩ := hv
  have HSC := Lib.hid (fun W h1 h2 => scan_any (textTo l l.length) W h1 h2 (hb _ (Nat.le_refl _)))
  have HBL : Box (∀ k, k ≤ l.length → (textTo l k).length ≤ 100000) := ⟨hb⟩
  have hni : (l.length : Int) ≤ 4000 := by omega
  obtain ⟨sr, HSR⟩ : ∃ sr, Box (scanRead (textTo l l.length) = sr) := ⟨_, ⟨rfl⟩⟩
  rw [HSR.out] at HSC ⊢
  have HNZ : Box (∀ a b e, sr = .bad a b e → e ≠ 0) := ⟨fun a b e h => scanRead_bad (HSR.out.trans h)⟩
  clear hb hS hL
  go_enter Tryz.func56, Tryz.ntmps56
  go_wp2_with fail
  have hbd0 : Lib.IsBuilder 141 5 w.heap.size w.heap.size (Lib.byteCells (textTo l 0)) (w.alloc (.cells #[.pointer Option.none, .slice Option.none 0 0] 141)) := .inl ⟨Nat.le_refl _, _, heap_alloc_new _ _, World.ownsRow_nil _ _ _ _, by simp [Value.ownBlock]⟩
  go_loopw [15] (fun i wr => ∃ k : Nat, k ≤ l.length ∧ i = .int .i64 k ∧ Lib.IsBuilder 141 5 w.heap.size w.heap.size (Lib.byteCells (textTo l k)) wr ∧ Below w.heap.size w wr) (fun i _ => l.length - (intOf i).toNat)
  case atStart => exact ⟨0, Nat.zero_le _, rfl, hbd0, (Below.refl _ _).alloc (Nat.le_refl _) _⟩
  case round =>
    clear hbd0
    obtain ⟨k, hk, rfl, hbd, hbw⟩ := hrel
    have HBD := Lib.hid hbd
    clear hbd
    by_cases hlt : k < l.length
    · have hbl1 := HBL.out k hk
      have hbl2 := HBL.out (k + 1) hlt
      obtain ⟨b1, o1, r1, rfl, hb1, hr1, hc1⟩ := (HV.out.lift hbw).at_ hlt
      have HS : Box (textTo l (k + 1) = textTo l k ++ (if 0 < k ∧ (l[k]'hlt).kind ≠ 6 ∧ (l[k - 1]?.map (·.kind)).getD 0 ≠ 6 then [32] else []) ++ (l[k]'hlt).text) := ⟨by rw [textTo, List.getElem?_eq_getElem hlt]; rfl⟩
      clear hbl2
      generalize hT1 : l[k]'hlt = t1 at *
      obtain ⟨A1, C1, e1, _⟩ := hr1
      subst e1
      have p0 := hc1 0 (by omega)
      have p1 := hc1 1 (by omega)
      have p2 := hc1 2 (by omega)
      have p3 := hc1 3 (by omega)
      have p4 := hc1 4 (by omega)
      have p5 := hc1 5 (by omega)
      have p6 := hc1 6 (by omega)
      simp only [tokVals, List.getElem?_cons_succ, List.getElem?_cons_zero, Nat.add_zero] at p0 p1 p2 p3 p4 p5 p6
      clear hc1 hT1
      rcases Nat.eq_zero_or_pos k with h0 | h0
      · subst h0
        have HSx : Box (textTo l (0 + 1) = textTo l 0 ++ [] ++ t1.text) := ⟨by rw [HS.out, if_neg (by omega)]⟩
        have hbl2 := HBL.out (0 + 1) hlt
        rw [HSx.out] at hbl2
        simp only [List.length_append, List.length_nil] at hbl2
        clear HS
        generalize textTo l 0 = tx at *
        simp only [Nat.zero_mul, Nat.add_zero] at p0 p1 p2 p3 p4 p5 p6
        have hba : Below wr.heap.size wr (wr.alloc (.cells #[.int .i64 t1.kind, .string ⟨t1.text.toArray⟩, .string ⟨t1.num.toArray⟩, .string ⟨t1.den.toArray⟩, .slice A1 t1.row.length C1, .int .i64 t1.line, .int .i64 t1.col] 38)) := (Below.refl _ _).alloc (Nat.le_refl _) _
        have HB2 := Lib.hid (builder_below HBD.out hba)
        have HT2 := Lib.hid (Cells.new wr 38 #[.int .i64 t1.kind, .string ⟨t1.text.toArray⟩, .string ⟨t1.num.toArray⟩, .string ⟨t1.den.toArray⟩, .slice A1 t1.row.length C1, .int .i64 t1.line, .int .i64 t1.col])
        have hbn := hbw.trans (hba.mono hbw.size)
        go_wp2_with fail
        generalize hWQ : wr.alloc (.cells #[.int .i64 t1.kind, .string ⟨t1.text.toArray⟩, .string ⟨t1.num.toArray⟩, .string ⟨t1.den.toArray⟩, .slice A1 t1.row.length C1, .int .i64 t1.line, .int .i64 t1.col] 38) = WQ at *
        clear hWQ hba
        refine (writeString_any w.heap.size w.heap.size _ ⟨t1.text.toArray⟩ _ HB2.out (by rw [byteCells_len]; show _ + t1.text.toArray.size ≤ _; rw [List.size_toArray]; omega) hbn.size).mono ?_
        rintro e w6 ⟨rfl, hbd, hb6, hkp⟩
        have HB3 := Lib.hid (Or.inr hbd : Lib.IsBuilder 141 5 w.heap.size w.heap.size _ w6)
        replace hbn := hbn.trans hb6
        clear hbd hb6 hkp
        go_wp2_with fail
        go_roundw
        case rel => exact ⟨0 + 1, by omega, by go_num, by rw [HSx.out]; exact builder_eq HB3.out, hbn⟩
        case measure => simp [intOf]; omega
      · obtain ⟨k', rfl⟩ : ∃ k', k = k' + 1 := ⟨k - 1, by omega⟩
        clear h0
        have hlt3 : k' < l.length := by omega
        obtain ⟨b2, o2, r2, e2, _, _, hc2⟩ := (HV.out.lift hbw).at_ hlt3
        injection e2 with e2
        injection e2 with e2 e3
        subst e2 e3
        have z0 := hc2 0 (by omega)
        simp only [tokVals, List.getElem?_cons_zero, Nat.add_zero] at z0
        rw [Nat.add_sub_cancel, List.getElem?_eq_getElem hlt3] at HS
        simp only [Option.map_some, Option.getD_some] at HS
        have hbl3 := HBL.out (k' + 1 + 1) hlt
        obtain ⟨pk, hpk⟩ : ∃ pk, (l[k']'hlt3).kind = pk := ⟨_, rfl⟩
        rw [hpk] at z0
        clear hc2
        by_cases hq1 : t1.kind = 6
        · skip
          have HSx : Box (textTo l (k' + 1 + 1) = textTo l (k' + 1) ++ [] ++ t1.text) := ⟨by rw [HS.out, if_neg (fun h => h.2.1 hq1)]⟩
          rw [HSx.out] at hbl3
          simp only [List.length_append, List.length_nil] at hbl3
          clear HS hpk
          generalize textTo l (k' + 1) = tx at *
          have hz1 : (t1.kind != 6) = false := by simpa using hq1
          clear hq1
          have hba : Below wr.heap.size wr (wr.alloc (.cells #[.int .i64 t1.kind, .string ⟨t1.text.toArray⟩, .string ⟨t1.num.toArray⟩, .string ⟨t1.den.toArray⟩, .slice A1 t1.row.length C1, .int .i64 t1.line, .int .i64 t1.col] 38)) := (Below.refl _ _).alloc (Nat.le_refl _) _
          have HB2 := Lib.hid (builder_below HBD.out hba)
          have HT2 := Lib.hid (Cells.new wr 38 #[.int .i64 t1.kind, .string ⟨t1.text.toArray⟩, .string ⟨t1.num.toArray⟩, .string ⟨t1.den.toArray⟩, .slice A1 t1.row.length C1, .int .i64 t1.line, .int .i64 t1.col])
          have hbn := hbw.trans (hba.mono hbw.size)
          go_wp2_with fail
          generalize hWQ : wr.alloc (.cells #[.int .i64 t1.kind, .string ⟨t1.text.toArray⟩, .string ⟨t1.num.toArray⟩, .string ⟨t1.den.toArray⟩, .slice A1 t1.row.length C1, .int .i64 t1.line, .int .i64 t1.col] 38) = WQ at *
          clear hWQ hba
          refine (writeString_any w.heap.size w.heap.size _ ⟨t1.text.toArray⟩ _ HB2.out (by rw [byteCells_len]; show _ + t1.text.toArray.size ≤ _; rw [List.size_toArray]; omega) hbn.size).mono ?_
          rintro e w6 ⟨rfl, hbd, hb6, hkp⟩
          have HB3 := Lib.hid (Or.inr hbd : Lib.IsBuilder 141 5 w.heap.size w.heap.size _ w6)
          replace hbn := hbn.trans hb6
          clear hbd hb6 hkp
          go_wp2_with fail
          go_roundw
          case rel => exact ⟨k' + 1 + 1, by omega, by go_num, by rw [HSx.out]; exact builder_eq HB3.out, hbn⟩
          case measure => simp [intOf]; omega
        by_cases hq2 : pk = 6
        · skip
          have HSx : Box (textTo l (k' + 1 + 1) = textTo l (k' + 1) ++ [] ++ t1.text) := ⟨by rw [HS.out, if_neg (fun h => h.2.2 (hpk.trans hq2))]⟩
          rw [HSx.out] at hbl3
          simp only [List.length_append, List.length_nil] at hbl3
          clear HS hpk
          generalize textTo l (k' + 1) = tx at *
          have hz1 : (t1.kind != 6) = true := by simpa using hq1
          have hz2 : (pk != 6) = false := by simpa using hq2
          clear hq1 hq2
          have hba : Below wr.heap.size wr (wr.alloc (.cells #[.int .i64 t1.kind, .string ⟨t1.text.toArray⟩, .string ⟨t1.num.toArray⟩, .string ⟨t1.den.toArray⟩, .slice A1 t1.row.length C1, .int .i64 t1.line, .int .i64 t1.col] 38)) := (Below.refl _ _).alloc (Nat.le_refl _) _
          have HB2 := Lib.hid (builder_below HBD.out hba)
          have HT2 := Lib.hid (Cells.new wr 38 #[.int .i64 t1.kind, .string ⟨t1.text.toArray⟩, .string ⟨t1.num.toArray⟩, .string ⟨t1.den.toArray⟩, .slice A1 t1.row.length C1, .int .i64 t1.line, .int .i64 t1.col])
          have hbn := hbw.trans (hba.mono hbw.size)
          go_wp2_with fail
          generalize hWQ : wr.alloc (.cells #[.int .i64 t1.kind, .string ⟨t1.text.toArray⟩, .string ⟨t1.num.toArray⟩, .string ⟨t1.den.toArray⟩, .slice A1 t1.row.length C1, .int .i64 t1.line, .int .i64 t1.col] 38) = WQ at *
          clear hWQ hba
          refine (writeString_any w.heap.size w.heap.size _ ⟨t1.text.toArray⟩ _ HB2.out (by rw [byteCells_len]; show _ + t1.text.toArray.size ≤ _; rw [List.size_toArray]; omega) hbn.size).mono ?_
          rintro e w6 ⟨rfl, hbd, hb6, hkp⟩
          have HB3 := Lib.hid (Or.inr hbd : Lib.IsBuilder 141 5 w.heap.size w.heap.size _ w6)
          replace hbn := hbn.trans hb6
          clear hbd hb6 hkp
          go_wp2_with fail
          go_roundw
          case rel => exact ⟨k' + 1 + 1, by omega, by go_num, by rw [HSx.out]; exact builder_eq HB3.out, hbn⟩
          case measure => simp [intOf]; omega
        have HSx : Box (textTo l (k' + 1 + 1) = textTo l (k' + 1) ++ [32] ++ t1.text) := ⟨by rw [HS.out, if_pos ⟨by omega, hq1, fun h => hq2 (hpk.symm.trans h)⟩]⟩
        rw [HSx.out] at hbl3
        simp only [List.length_append, List.length_nil, List.length_cons] at hbl3
        clear HS hpk
        generalize textTo l (k' + 1) = tx at *
        have hz1 : (t1.kind != 6) = true := by simpa using hq1
        have hz2 : (pk != 6) = true := by simpa using hq2
        clear hq1 hq2
        have hba : Below wr.heap.size wr (wr.alloc (.cells #[.int .i64 t1.kind, .string ⟨t1.text.toArray⟩, .string ⟨t1.num.toArray⟩, .string ⟨t1.den.toArray⟩, .slice A1 t1.row.length C1, .int .i64 t1.line, .int .i64 t1.col] 38)) := (Below.refl _ _).alloc (Nat.le_refl _) _
        have HB2 := Lib.hid (builder_below HBD.out hba)
        have HT2 := Lib.hid (Cells.new wr 38 #[.int .i64 t1.kind, .string ⟨t1.text.toArray⟩, .string ⟨t1.num.toArray⟩, .string ⟨t1.den.toArray⟩, .slice A1 t1.row.length C1, .int .i64 t1.line, .int .i64 t1.col])
        have hbn := hbw.trans (hba.mono hbw.size)
        go_wp2_with fail
        generalize hWQ : wr.alloc (.cells #[.int .i64 t1.kind, .string ⟨t1.text.toArray⟩, .string ⟨t1.num.toArray⟩, .string ⟨t1.den.toArray⟩, .slice A1 t1.row.length C1, .int .i64 t1.line, .int .i64 t1.col] 38) = WQ at *
        clear hWQ hba
        refine (writeByte_any w.heap.size w.heap.size _ 32 _ HB2.out (by rw [byteCells_len]; omega) hbn.size).mono ?_
        rintro e w5 ⟨rfl, hbd, hb5, hkp⟩
        replace HB2 := Lib.hid (Or.inr hbd : Lib.IsBuilder 141 5 w.heap.size w.heap.size _ w5)
        replace HT2 := Lib.hid (cells_keep HT2.out hkp (by decide) (by decide))
        replace hbn := hbn.trans hb5
        clear hbd hb5 hkp
        have z1 := HT2.out.cell 1
        simp only [List.getElem?_cons_succ, List.getElem?_cons_zero] at z1
        go_wp2_with fail
        refine (writeString_any w.heap.size w.heap.size _ ⟨t1.text.toArray⟩ _ HB2.out (by rw [List.length_append, byteCells_len]; show _ + 1 + t1.text.toArray.size ≤ _; rw [List.size_toArray]; omega) hbn.size).mono ?_
        rintro e w6 ⟨rfl, hbd, hb6, hkp⟩
        have HB3 := Lib.hid (Or.inr hbd : Lib.IsBuilder 141 5 w.heap.size w.heap.size _ w6)
        replace hbn := hbn.trans hb6
        clear hbd hb6 hkp
        go_wp2_with fail
        go_roundw
        case rel => exact ⟨k' + 1 + 1, by omega, by go_num, by rw [HSx.out]; exact builder_eq2 HB3.out, hbn⟩
        case measure => simp [intOf]; omega
    · obtain rfl : k = l.length := by omega
      clear HBL HSR
      have HTO : Box (∀ own, textOut l (.good own) = if toksEq own l then .tuple #[.string ⟨(textTo l l.length).toArray⟩, .int .i64 0] else .tuple #[.string ⟨#[]⟩, .int .i64 7]) := ⟨fun _ => rfl⟩
      generalize textTo l l.length = tx at *
      go_wp2_with fail
      refine (builderString_any w.heap.size w.heap.size tx _ (Lib.IsBuilderF.of HBD.out) hbw.size).mono ?_
      rintro e w5 ⟨rfl, hF, hb5⟩
      have hbn := hbw.trans hb5
      have HFB := Lib.hid hF
      clear hb5 hF HBD
      go_wp2_with fail
      refine (HSC.out _ (HS0.out.below hbn (Nat.le_refl _)) (HLI.out.below hbn)).mono ?_
      rintro e w6 ⟨ho, hb6⟩
      replace HFB := Lib.hid (builderF_below HFB.out hb6)
      replace hbn := hbn.trans (hb6.mono hbn.size)
      clear hb6
      cases sr with
      | bad ln cl er =>
        obtain rfl := ho
        have her : (er != 0) = true := by have := HNZ.out _ _ _ rfl; simpa using this
        go_wp2_with fail
        go_ret2
        exact ⟨rfl, hbn.alloc hbn.size _⟩
      | good own =>
        obtain ⟨A, c, rfl, hit⟩ := ho
        have HIT := Lib.hid hit
        clear hit
        have HQ := Lib.hid (fun W h1 h2 => equalFunc_lex (.slice A own.length c) (.slice AX l.length cx) own l W h1 h2)
        obtain ⟨q, Hq⟩ : ∃ q, Box (toksEq own l = q) := ⟨_, ⟨rfl⟩⟩
        rw [Hq.out] at HQ
        have hba : Below w6.heap.size w6 (w6.alloc (.cells #[.int .i64 0, .int .i64 0] 36)) := (Below.refl _ _).alloc (Nat.le_refl _) _
        have hbm := hbn.trans (hba.mono hbn.size)
        replace HFB := Lib.hid (builderF_below HFB.out hba)
        replace HIT := Lib.hid (HIT.out.lift hba)
        go_wp2_with fail
        generalize hWQ : w6.alloc (.cells #[.int .i64 0, .int .i64 0] 36) = WQ at *
        clear hWQ hba hbn
        refine (HQ.out _ HIT.out (HV.out.lift hbm)).mono ?_
        rintro e w7 ⟨rfl, hb7⟩
        replace HFB := Lib.hid (builderF_below HFB.out hb7)
        replace hbm := hbm.trans (hb7.mono hbm.size)
        clear hb7
        cases q with
        | false =>
          go_wp2_with fail
          go_ret2
          exact ⟨by rw [HTO.out, Hq.out]; rfl, hbm⟩
        | true =>
          go_wp2_with fail
          refine (builderString_any w.heap.size w.heap.size tx _ HFB.out hbm.size).mono ?_
          rintro e w8 ⟨rfl, hF, hb8⟩
          replace hbm := hbm.trans hb8
          clear hb8 hF HFB
          go_wp2_with fail
          go_ret2
          exact ⟨by rw [HTO.out, Hq.out]; rfl, hbm⟩

end Go.Proofs.YtjgpjhaeoiddbaaGreatDoor

namespace Go.Proofs.YtjgpjhaeoiddbaaGreatDoor
open Go.RowKit Go.Lib

/-- The tokens of the example. -/
def knToks : List Tok := [⟨1, [67, 35], [], [], [], 1, 1⟩, ⟨2, [51, 47, 50], [51], [50], [], 1, 4⟩, ⟨3, [91, 45, 49, 32, 49, 62], [], [], [-1, 1], 1, 8⟩, ⟨6, [10], [], [], [], 1, 22⟩]
def knText : List UInt8 := [67, 35, 32, 51, 47, 50, 32, 91, 45, 49, 32, 49, 62, 32, 59, 32, 102, 105, 102, 116, 104]
def knText2 : List UInt8 := [67, 35, 32, 51, 47, 50, 32, 91, 45, 49, 32, 49, 62, 10]
theorem kn_scan : scanRead knText = .good knToks := by kernel_rfl
theorem kn_bad : scanRead [97, 32, 45] = .bad 1 3 15 := by kernel_rfl
/-- The tokens of the text written anew. -/
def knToks2 : List Tok := [⟨1, [67, 35], [], [], [], 1, 1⟩, ⟨2, [51, 47, 50], [51], [50], [], 1, 4⟩, ⟨3, [91, 45, 49, 32, 49, 62], [], [], [-1, 1], 1, 8⟩, ⟨6, [10], [], [], [], 1, 14⟩]
theorem kn_scan2 : scanRead knText2 = .good knToks2 := by kernel_rfl

end Go.Proofs.YtjgpjhaeoiddbaaGreatDoor

namespace Go.Proofs.YtjgpjhaeoiddbaaGreatDoor
open Go.RowKit Go.Lib

theorem keep_alloc {w : World} {p : Addr} {v : Value} (h : w.cell? p = some v) (o : Obj) : (w.alloc o).cell? p = some v := (World.cell?_alloc_lt w o p (cell_lt h)).trans h
theorem keep_new {w w' : World} {p : Addr} {v : Value} {o : Obj} (h : w.cell? p = some v) (hb : Below (w.heap.size + 1) (w.alloc o) w') : w'.cell? p = some v := (hb.cell (by have := cell_lt h; omega)).trans (keep_alloc h o)

set_option maxRecDepth 100000 in
set_option maxHeartbeats 4000000 in
theorem known47 (w : World) (hS : Std w) (hL : LenIs w) :
    Calls Tryz.prog 12 #[] w fun e w' => e = .returned (.bool true) ∧ Below w.heap.size w w' := by
  have HS := Lib.hid hS
  have HLI := Lib.hid hL
  have H1 := Lib.hid (fun W h1 h2 => scan_any [67, 35, 32, 51, 47, 50, 32, 91, 45, 49, 32, 49, 62, 32, 59, 32, 102, 105, 102, 116, 104] W h1 h2 (by decide))
  have H2 := Lib.hid (fun W h1 h2 => scan_any [97, 32, 45] W h1 h2 (by decide))
  have H3 := Lib.hid (fun v W h1 h2 h3 => text_any47 v knToks W h1 h2 h3 (by decide) (by decide))
  rw [kn_bad] at H2
  have hsc : scanRead [67, 35, 32, 51, 47, 50, 32, 91, 45, 49, 32, 49, 62, 32, 59, 32, 102, 105, 102, 116, 104] = .good knToks := kn_scan
  rw [hsc] at H1
  have htx : textTo knToks knToks.length = knText2 := by decide
  have hto : textOut knToks (scanRead (textTo knToks knToks.length)) = .tuple #[.string ⟨#[67, 35, 32, 51, 47, 50, 32, 91, 45, 49, 32, 49, 62, 10]⟩, .int .i64 0] := by
    rw [htx, kn_scan2]
    kernel_rfl
  rw [hto] at H3
  have e51 : itoa ((3 / Nat.gcd 3 2 : Nat) : Int) = [51] := by kernel_rfl
  have e50 : itoa ((2 / Nat.gcd 3 2 : Nat) : Int) = [50] := by kernel_rfl
  have H4 : Hid (∀ W, Std W → Calls Tryz.prog 57 #[.int .i64 3, .int .i64 2] W fun e w' => e = .returned (.agg #[.string ⟨#[51]⟩, .string ⟨#[50]⟩]) ∧ Below W.heap.size W w') := Lib.hid (fun W h => by
    have q := frac03_pos 3 2 W h (by omega) (by omega) (by omega) (by omega) (of_decide_eq_true (by kernel_rfl)) (of_decide_eq_true (by kernel_rfl))
    rw [e51, e50] at q
    exact q)
  clear e51 e50
  clear hS hL hsc htx hto
  go_enter Tryz.func12, Tryz.ntmps12
  go_wp2_with fail
  refine (H1.out _ HS.out HLI.out).mono ?_
  rintro e w1 ⟨⟨A, c, rfl, ht⟩, hb1⟩
  have HT := Lib.hid ht
  replace HS := Lib.hid (HS.out.below hb1 (Nat.le_refl _))
  replace HLI := Lib.hid (HLI.out.below hb1)
  rw [show knToks.length = 4 from rfl] at HT
  rw [show knToks.length = 4 from rfl]
  clear ht
  go_wp2_with fail
  have hba : Below w1.heap.size w1 (w1.alloc (.cells #[.int .i64 0, .int .i64 0] 36)) := (Below.refl _ _).alloc (Nat.le_refl _) _
  refine (H3.out _ _ (HS.out.alloc _) (HLI.out.below hba) (HT.out.lift hba)).mono ?_
  rintro e w2 ⟨rfl, hb2⟩
  rw [World.size_alloc] at hb2
  obtain ⟨a0, a1, _, _, _⟩ := two_below hb2
  have hb2' := below_result hb2
  replace HT := Lib.hid (HT.out.lift hb2')
  replace HS := Lib.hid (HS.out.below hb2' (Nat.le_refl _))
  replace HLI := Lib.hid (HLI.out.below hb2')
  replace hb1 := hb1.trans (hb2'.mono hb1.size)
  have HA0 := Lib.hid a0
  have HA1 := Lib.hid a1
  clear hba hb2 hb2' a0 a1
  go_wp2_with fail
  refine (H2.out _ HS.out HLI.out).mono ?_
  rintro e w3 ⟨he, hb3⟩
  obtain rfl := show e = .returned (.tuple #[.slice Option.none 0 0, .agg #[.int .i64 1, .int .i64 3], .int .i64 15]) from he
  replace HT := Lib.hid (HT.out.lift hb3)
  replace HS := Lib.hid (HS.out.below hb3 (Nat.le_refl _))
  replace HA0 := Lib.hid (keep_cell HA0.out hb3)
  replace HA1 := Lib.hid (keep_cell HA1.out hb3)
  replace hb1 := hb1.trans (hb3.mono hb1.size)
  clear hb3 he HLI H1 H2 H3
  go_wp2_with fail
  obtain ⟨W4, hW4⟩ : ∃ W4, W4 = w3.alloc (.cells #[.int .i64 1, .int .i64 3] 36) := ⟨_, rfl⟩
  have hba : Below w3.heap.size w3 W4 := by rw [hW4]; exact (Below.refl _ _).alloc (Nat.le_refl _) _
  have CN : Cells W4 w3.heap.size 36 [.int .i64 1, .int .i64 3] := by rw [hW4]; exact Cells.new _ _ _
  rw [← hW4]
  clear hW4
  have d0 := CN.cell 0
  have d1 := CN.cell 1
  simp only [List.getElem?_cons_succ, List.getElem?_cons_zero] at d0 d1
  have c0 := keep_cell HA0.out hba
  have c1 := keep_cell HA1.out hba
  replace HT := Lib.hid (HT.out.lift hba)
  replace HS := Lib.hid (HS.out.below hba (Nat.le_refl _))
  have HBW := Lib.hid (hb1.trans (hba.mono hb1.size))
  obtain ⟨b, o, rv1, rfl, hbB, _, k1⟩ := HT.out.at_ (k := 1) (by decide)
  obtain ⟨b2, o2, rv2, e2, _, hr2, k2⟩ := HT.out.at_ (k := 2) (by decide)
  injection e2 with e2
  injection e2 with e2 e3
  subst e2 e3
  obtain ⟨b3, o3, rv3, e2, _, _, k3⟩ := HT.out.at_ (k := 3) (by decide)
  injection e2 with e2
  injection e2 with e2 e3
  subst e2 e3
  have HR := Lib.hid hr2
  have t0 : W4.cell? ⟨b, o + 7 + 2, Option.none⟩ = some (.string ⟨#[51]⟩) := k1 2 (by omega)
  have t1 : W4.cell? ⟨b, o + 7 + 3, Option.none⟩ = some (.string ⟨#[50]⟩) := k1 3 (by omega)
  have t2 : W4.cell? ⟨b, o + 14 + 4, Option.none⟩ = some rv2 := k2 4 (by omega)
  have t3 : W4.cell? ⟨b, o + 21 + 5, Option.none⟩ = some (.int .i64 1) := k3 5 (by omega)
  have t4 : W4.cell? ⟨b, o + 21 + 6, Option.none⟩ = some (.int .i64 22) := k3 6 (by omega)
  clear hba CN HA0 HA1 hb1 k1 k2 k3 hr2
  have HEQ : Hid (∀ w7, Below W4.drew.heap.size W4.drew w7 → Calls Tryz.prog 58 #[rv2, .slice (some ⟨w7.heap.size, 0, Option.none⟩) 2 2] (w7.alloc (.cells #[.int .i64 (-1), .int .i64 1] 3)) fun e w' => e = .returned (.bool true) ∧ Below (w7.heap.size + 1) (w7.alloc (.cells #[.int .i64 (-1), .int .i64 1] 3)) w') := Lib.hid (fun w7 hb => by
    have hb2 : Below W4.heap.size W4 w7 := (below_to_drew2 (Below.refl _ _)).trans hb
    have hb3 : Below w7.heap.size w7 (w7.alloc (.cells #[.int .i64 (-1), .int .i64 1] 3)) := (Below.refl _ _).alloc (Nat.le_refl _) _
    have hn := isRow_new w7 3 [-1, 1] #[.int .i64 (-1), .int .i64 1] rfl (by decide) 2 rfl
    have q := slEq_any rv2 _ [-1, 1] [-1, 1] _ ((HR.out.lift hb2).lift hb3) (by rw [World.size_alloc]; exact hn)
    rw [show sameB [-1, 1] [-1, 1] = true by decide, World.size_alloc] at q
    exact q)
  go_region_held3 (fun w' => w'.cell? ⟨w1.heap.size, 0, Option.none⟩ = some (.int .i64 0) ∧ w'.cell? ⟨w1.heap.size, 1, Option.none⟩ = some (.int .i64 0) ∧ w'.cell? ⟨w3.heap.size, 0, Option.none⟩ = some (.int .i64 1) ∧ w'.cell? ⟨w3.heap.size, 1, Option.none⟩ = some (.int .i64 3) ∧ w'.cell? ⟨b, o + 7 + 2, Option.none⟩ = some (.string ⟨#[51]⟩) ∧ w'.cell? ⟨b, o + 7 + 3, Option.none⟩ = some (.string ⟨#[50]⟩) ∧ w'.cell? ⟨b, o + 14 + 4, Option.none⟩ = some rv2 ∧ w'.cell? ⟨b, o + 21 + 5, Option.none⟩ = some (.int .i64 1) ∧ w'.cell? ⟨b, o + 21 + 6, Option.none⟩ = some (.int .i64 22))
    (first | go_keep | exact ⟨keep_drew c0 hbk, keep_drew c1 hbk, keep_drew d0 hbk, keep_drew d1 hbk, keep_drew t0 hbk, keep_drew t1 hbk, keep_drew t2 hbk, keep_drew t3 hbk, keep_drew t4 hbk⟩ | exact ⟨keep_alloc u0 _, keep_alloc u1 _, keep_alloc u2 _, keep_alloc u3 _, keep_alloc u4 _, keep_alloc u5 _, keep_alloc u6 _, keep_alloc u7 _, keep_alloc u8 _⟩ | exact ⟨v0, v1, v2, v3, v4, v5, v6, v7, v8⟩)
    ((first | (go_at_call 57; (with_reducible refine (H4.out _ HS.out.drew).mono ?_); rintro e w7 ⟨rfl, hbk⟩; have u0 := keep_drew c0 hbk; have u1 := keep_drew c1 hbk; have u2 := keep_drew d0 hbk; have u3 := keep_drew d1 hbk; have u4 := keep_drew t0 hbk; have u5 := keep_drew t1 hbk; have u6 := keep_drew t2 hbk; have u7 := keep_drew t3 hbk; have u8 := keep_drew t4 hbk) | (go_at_call 58; (with_reducible refine (HEQ.out _ hbk).mono ?_); rintro e w8 ⟨rfl, hbm⟩; have v0 := keep_new u0 hbm; have v1 := keep_new u1 hbm; have v2 := keep_new u2 hbm; have v3 := keep_new u3 hbm; have v4 := keep_new u4 hbm; have v5 := keep_new u5 hbm; have v6 := keep_new u6 hbm; have v7 := keep_new u7 hbm; have v8 := keep_new u8 hbm)))
  have hbn := (below_to_drew2 HBW.out).trans (hbk.mono (below_to_drew2 HBW.out).size)
  have hbz := hbn.trans ((below_result hbm).mono hbn.size)
  go_wp2_with fail
  go_ret
  exact ⟨rfl, hbz⟩

end Go.Proofs.YtjgpjhaeoiddbaaGreatDoor
