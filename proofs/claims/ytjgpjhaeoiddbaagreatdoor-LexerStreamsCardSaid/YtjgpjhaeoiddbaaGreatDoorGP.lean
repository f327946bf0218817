/- Arguments that came in, opened: tokens, slices of tokens. slices.IndexFunc and ContainsFunc over tokens; schismalaw47.short. -/
import Derived.Test.YtjgpjhaeoiddbaaGreatDoorArgsG
import Derived.Test.YtjgpjhaeoiddbaaGreatDoorGL
import Derived.Deep.Slices
import Derived.Test.YtjgpjhaeoiddbaaGreatDoorGN
namespace Go.Proofs.YtjgpjhaeoiddbaaGreatDoor
open Go.ChangeShapes Go.WideShapes Go.ChangeAt Go.RowKit

/-- A token whose texts are not longer than a text can be. -/
def Tok.Fits (t : Tok) : Prop := t.text.length ≤ maxLen ∧ t.num.length ≤ maxLen ∧ t.den.length ≤ maxLen

section
variable {H : Type} {enc : TypeId × Value → H} {W : World} {held : Bool} {base : Nat} {d : DataW H} {ps : List MemPlace} {v : Value} {r : Reach}

theorem trod_row {fuel : Nat} {cs : List Value} {x : DataW H × List MemPlace} (h : DataW.trod enc Tryz.prog W 0 (fun _ => true) held fuel 34 cs = some x) : ∃ rv y, cs = [rv] ∧ IsRow W W.heap.size rv y := by
  rcases open_ints Tryz.underlying34 Tryz.underlying3 (by kernel_rfl) h with ⟨rfl, _⟩ | ⟨a, l, c, zs, rfl, _⟩
  · exact ⟨_, [], rfl, Option.none, 0, rfl, Nat.le_refl _, Nat.zero_le _, Row.nil _ _ _ _⟩
  · obtain ⟨d, p⟩ := x
    obtain ⟨y, hy⟩ := arg_row (len := l) (cap := c) (a := some a) Tryz.underlying34 ⟨fuel, h⟩
    exact ⟨_, y, rfl, hy⟩

set_option maxRecDepth 100000 in
theorem trod_tok {fuel : Nat} {cs : List Value} {x : DataW H × List MemPlace} (h : DataW.trod enc Tryz.prog W 0 (fun _ => true) held fuel 38 cs = some x) :
    ∃ (t : Tok) (rv : Value), cs = tokVals t rv ∧ IsRow W W.heap.size rv t.row ∧ t.Fits := by
  have hc7 : Tryz.prog.cellsOf 38 = 7 := by kernel_rfl
  have hc2 : Tryz.prog.cellsOf 32 = 2 := by kernel_rfl
  have hp2 : Tryz.prog.cellsOf 36 = 2 := by kernel_rfl
  have hi1 : Tryz.prog.cellsOf 3 = 1 := by kernel_rfl
  have hs1 : Tryz.prog.cellsOf 9 = 1 := by kernel_rfl
  have hn1 : Tryz.prog.cellsOf 30 = 1 := by kernel_rfl
  have hr1 : Tryz.prog.cellsOf 34 = 1 := by kernel_rfl
  obtain ⟨xs, m, _, _, hl, hx, hg⟩ := DataW.trod_struct Tryz.underlying38 h
  rw [hc7] at hl
  match cs, hl with
  | [c0, c1, c2, c3, c4, c5, c6], _ =>
    match xs, hx with
    | [x0, x1, x2, x3, x4], _ =>
      have g0 := hg 0 _ rfl
      have g1 := hg 1 _ rfl
      have g2 := hg 2 _ rfl
      have g3 := hg 3 _ rfl
      have g4 := hg 4 _ rfl
      simp [hi1, hs1, hc2, hr1, hp2] at g0 g1 g2 g3 g4
      obtain ⟨k, e0, _, _⟩ := DataW.trod_int Tryz.underlying3 g0
      obtain ⟨s, e1, _, w1⟩ := DataW.trod_string Tryz.underlying9 g1
      obtain ⟨rv, y, e3, hy⟩ := trod_row g3
      obtain ⟨ys, _, _, _, _, hyl, hyg⟩ := DataW.trod_struct Tryz.underlying32 g2
      obtain ⟨zs, _, _, _, _, hzl, hzg⟩ := DataW.trod_struct Tryz.underlying36 g4
      match ys, hyl with
      | [y0, y1], _ =>
        match zs, hzl with
        | [z0, z1], _ =>
          have p0 := hyg 0 _ rfl
          have p1 := hyg 1 _ rfl
          have q0 := hzg 0 _ rfl
          have q1 := hzg 1 _ rfl
          simp [hn1, hi1] at p0 p1 q0 q1
          obtain ⟨n, e2, _, w2⟩ := DataW.trod_string Tryz.underlying30 p0
          obtain ⟨dn, e4, _, w3⟩ := DataW.trod_string Tryz.underlying30 p1
          obtain ⟨li, e5, _, _⟩ := DataW.trod_int Tryz.underlying3 q0
          obtain ⟨co, e6, _, _⟩ := DataW.trod_int Tryz.underlying3 q1
          simp at e0 e1 e2 e3 e4 e5 e6
          subst e0 e1 e2 e3 e4 e5 e6
          exact ⟨⟨k, s.data.toList, n.data.toList, dn.data.toList, y, li, co⟩, c4, rfl, hy, Nat.le_trans (Nat.le_of_eq (size_list s)) w1, Nat.le_trans (Nat.le_of_eq (size_list n)) w2, Nat.le_trans (Nat.le_of_eq (size_list dn)) w3⟩

set_option maxRecDepth 100000 in
theorem arg_tok (hv : Value.okWide Tryz.prog W r base 38 v) (h : DataW.Trod enc Tryz.prog W 0 (fun _ => true) held 38 v d ps) :
    ∃ (t : Tok) (rv : Value), v = .agg #[.int .i64 t.kind, .string ⟨t.text.toArray⟩, .string ⟨t.num.toArray⟩, .string ⟨t.den.toArray⟩, rv, .int .i64 t.line, .int .i64 t.col] ∧ IsRow W W.heap.size rv t.row ∧ t.Fits := by
  obtain ⟨cs, rfl, _⟩ := okWide_struct Tryz.underlying38 hv
  obtain ⟨fuel, hf⟩ := h
  obtain ⟨t, rv, hc, h1, h2⟩ := trod_tok hf
  refine ⟨t, rv, ?_, h1, h2⟩
  have : cs.toList = tokVals t rv := hc
  rw [← Array.toArray_toList (xs := cs), this]
  rfl

set_option maxRecDepth 100000 in
theorem arg_toks (hv : Value.okWide Tryz.prog W r base 22 v) (h : DataW.Trod enc Tryz.prog W 0 (fun _ => true) held 22 v d ps) :
    ∃ l : List Tok, IsToks W W.heap.size v l ∧ ∀ t ∈ l, t.Fits := by
  obtain ⟨A0, len0, cap0, rfl⟩ := okWide_slice Tryz.underlying22 hv
  have hc7 : Tryz.prog.cellsOf 38 = 7 := by kernel_rfl
  obtain ⟨fuel, hf⟩ := h
  rcases Go.Deep.open_slice Tryz.underlying22 hf with ⟨e, _⟩ | ⟨a, len, cap, m, n, D, Pl, e, _, hl, hm, hmm, _, hi⟩
  · simp [Value.cells] at e
    obtain ⟨rfl, rfl, rfl⟩ := e
    exact ⟨[], ⟨Option.none, 0, [], rfl, Nat.le_refl _, Nat.zero_le _, rfl, Row.nil _ _ _ _, fun k t rv h => by simp at h⟩, fun t h => by simp at h⟩
  · simp [Value.cells] at e
    obtain ⟨rfl, rfl, rfl⟩ := e
    have hlm : len0 ≤ m := by rw [hmm]; split <;> omega
    have each : ∀ i, i < len0 → ∃ (t : Tok) (rv : Value), IsRow W W.heap.size rv t.row ∧ t.Fits ∧ ∀ j, j < 7 → W.cell? (a.add (i * 7 + j)) = (tokVals t rv)[j]? := fun i hil => by
      obtain ⟨cs', h1, h2⟩ := hi i (by omega)
      rw [hc7] at h1
      obtain ⟨_, _, h3⟩ := World.cells?_some h1
      obtain ⟨t, rv, e, h4, h5⟩ := trod_tok h2
      subst e
      refine ⟨t, rv, h4, h5, fun j hj => ?_⟩
      rw [← h3 j hj, add_add']
    have build : ∀ k, k ≤ len0 → ∃ (l : List Tok) (rvs : List Value), l.length = k ∧ rvs.length = k ∧ (∀ (i : Nat) t rv, l[i]? = some t → rvs[i]? = some rv → IsRow W W.heap.size rv t.row ∧ t.Fits ∧ ∀ j, j < 7 → W.cell? (a.add (i * 7 + j)) = (tokVals t rv)[j]?) := by
      intro k
      induction k with
      | zero => exact fun _ => ⟨[], [], rfl, rfl, fun i t rv h => by simp at h⟩
      | succ k ih =>
        intro hk
        obtain ⟨l, rvs, hl1, hl2, hl3⟩ := ih (by omega)
        obtain ⟨t, rv, h1, h2, h3⟩ := each k (by omega)
        refine ⟨l ++ [t], rvs ++ [rv], by simp [hl1], by simp [hl2], fun i u uv hu huv => ?_⟩
        by_cases hik : i < k
        · rw [List.getElem?_append_left (by omega)] at hu huv
          exact hl3 i u uv hu huv
        · by_cases hik2 : i = k
          · subst hik2
            rw [List.getElem?_append_right (by omega), hl1, Nat.sub_self] at hu
            rw [List.getElem?_append_right (by omega), hl2, Nat.sub_self] at huv
            simp at hu huv
            subst hu huv
            exact ⟨h1, h2, h3⟩
          · rw [List.getElem?_eq_none (by simp; omega)] at hu
            cases hu
    obtain ⟨l, rvs, h1, h2, h3⟩ := build len0 (Nat.le_refl _)
    subst h1
    have hpair : ∀ i, i < l.length → ∃ t rv, l[i]? = some t ∧ rvs[i]? = some rv := fun i hil => ⟨_, _, List.getElem?_eq_getElem hil, List.getElem?_eq_getElem (by omega)⟩
    refine ⟨l, ⟨some a, cap0, rvs, rfl, hl, hm, h2, ⟨flat_len l rvs h2, fun k u hu => ?_⟩, fun k t rv ht hr => (h3 k t rv ht hr).1⟩, fun t ht => ?_⟩
    · have hk : k < l.length * 7 := by rw [← flat_len l rvs h2]; exact (List.getElem?_eq_some_iff.1 hu).1
      obtain ⟨t, rv, ht, hr⟩ := hpair (k / 7) (by omega)
      have hk7 : k / 7 * 7 + k % 7 = k := Nat.div_add_mod' k 7
      have h4 := flat_get l rvs (k / 7) t rv (k % 7) h2 ht hr (Nat.mod_lt _ (by omega))
      have h5 := (h3 _ _ _ ht hr).2.2 (k % 7) (Nat.mod_lt _ (by omega))
      rw [hk7] at h4 h5
      rw [h4] at hu
      rw [hu] at h5
      exact ⟨a, rfl, by have := World.block_lt_of_cell? W _ h5; rw [add_block] at this; exact this, h5⟩
    · obtain ⟨i, hil, rfl⟩ := List.getElem_of_mem ht
      obtain ⟨t, rv, ht, hr⟩ := hpair i hil
      rw [List.getElem?_eq_getElem hil] at ht
      injection ht with ht
      rw [ht]
      exact (h3 _ _ _ (by rw [List.getElem?_eq_getElem hil, ht]) hr).2.1
end

end Go.Proofs.YtjgpjhaeoiddbaaGreatDoor

namespace Go.Proofs.YtjgpjhaeoiddbaaGreatDoor
open Go.RowKit Go.Lib

def idxF (p : Tok → Bool) : Nat → List Tok → Int
  | _, [] => -1
  | k, t :: r => if p t then k else idxF p (k + 1) r
theorem idxF_any (p : Tok → Bool) : ∀ (l : List Tok) (k : Nat), decide (0 ≤ idxF p k l) = l.any p
  | [], k => rfl
  | t :: r, k => by
    rw [idxF, List.any_cons]
    cases h : p t with
    | true => rw [if_pos rfl, Bool.true_or, decide_eq_true (by omega)]
    | false => rw [if_neg (by decide), Bool.false_or, idxF_any p r (k + 1)]

set_option maxRecDepth 100000 in
set_option maxHeartbeats 2000000 in
theorem indexFunc_toks (pf : FuncId) (p : Tok → Bool) (v : Value) (l : List Tok) (w : World) (h : IsToks w w.heap.size v l) (hpf : pf = 60 ∨ pf = 22)
    (HP : Hid (∀ (t : Tok) (A : Option Addr) (n c : Nat) (W : World), n = t.row.length → Calls Tryz.prog pf #[.agg #[.int .i64 t.kind, .string ⟨t.text.toArray⟩, .string ⟨t.num.toArray⟩, .string ⟨t.den.toArray⟩, .slice A n c, .int .i64 t.line, .int .i64 t.col]] W fun e w' => e = .returned (.bool (p t)) ∧ Below W.heap.size W w')) :
    Calls Tryz.prog 21 #[v, .func (.func pf) #[] #[]] w fun e w' => e = .returned (.int .i64 (idxF p 0 l)) ∧ Below w.heap.size w w' := by
  have H1 := Lib.hid h
  obtain ⟨AX, cx, _, rfl, hc1, hc2, _⟩ := h
  have hl : l.length ≤ 9223372036854775807 := by unfold maxLen at hc2; omega
  clear hc1 hc2
  obtain ⟨out, HO⟩ : ∃ out, Box (idxF p 0 (l.drop 0) = out ∧ idxF p 0 l = out) := ⟨_, ⟨rfl, rfl⟩⟩
  rw [HO.out.2]
  rcases hpf with rfl | rfl
  all_goals
    go_enter Tryz.func21, Tryz.ntmps21
    go_wp2_with fail
    go_loopw [8] (fun i wr => ∃ k : Nat, k ≤ l.length ∧ i = .int .i64 k ∧ Box (idxF p k (l.drop k) = out) ∧ Below w.heap.size w wr) (fun i _ => l.length - (intOf i).toNat)
    case atStart => exact ⟨0, Nat.zero_le _, rfl, ⟨HO.out.1⟩, Below.refl _ _⟩
    case round =>
      obtain ⟨k, hk, rfl, HK, hbw⟩ := hrel
      by_cases hlt : k < l.length
      · obtain ⟨b1, o1, r1, rfl, hb1, hr1, hc1⟩ := (H1.out.lift hbw).at_ hlt
        have HS : Box (out = if p (l[k]'hlt) then (k : Int) else idxF p (k + 1) (l.drop (k + 1))) := ⟨by rw [← HK.out, List.drop_eq_getElem_cons hlt, idxF]⟩
        generalize l[k]'hlt = t1 at *
        obtain ⟨A1, C1, e1, _⟩ := hr1
        subst e1
        have HE := Lib.hid (HP.out t1 A1 t1.row.length C1 wr rfl)
        generalize p t1 = tb at *
        have p0 := hc1 0 (by omega)
        have p1 := hc1 1 (by omega)
        have p2 := hc1 2 (by omega)
        have p3 := hc1 3 (by omega)
        have p4 := hc1 4 (by omega)
        have p5 := hc1 5 (by omega)
        have p6 := hc1 6 (by omega)
        simp only [tokVals, List.getElem?_cons_succ, List.getElem?_cons_zero, Nat.add_zero] at p0 p1 p2 p3 p4 p5 p6
        clear hc1
        cases tb with
        | true =>
          have HF : Box (out = (k : Int)) := ⟨by rw [HS.out]; rfl⟩
          clear HS HK HO
          go_wp2_with fail
          refine HE.out.mono ?_
          rintro e w1 ⟨rfl, hb1⟩
          have hbn := hbw.trans (hb1.mono hbw.size)
          clear hb1
          go_wp2_with fail
          go_ret
          exact ⟨ret_int HF.out.symm, hbn⟩
        | false =>
          have HF : Box (idxF p (k + 1) (l.drop (k + 1)) = out) := ⟨by rw [HS.out]; rfl⟩
          clear HS HK HO
          go_wp2_with fail
          refine HE.out.mono ?_
          rintro e w1 ⟨rfl, hb1⟩
          have hbn := hbw.trans (hb1.mono hbw.size)
          clear hb1
          go_wp2_with fail
          go_roundw
          case rel => exact ⟨k + 1, by omega, by go_num, HF, hbn⟩
          case measure => simp [intOf]; omega
      · obtain rfl : k = l.length := by omega
        have HF : Box (out = -1) := ⟨by rw [← HK.out, List.drop_length]; rfl⟩
        go_wp2_with fail
        go_ret
        exact ⟨ret_int HF.out.symm, hbw⟩

/-- A token that is too long for the statements. -/
def longTok (t : Tok) : Bool := decide (60 < t.text.length) || (decide (40 < t.num.length) || (decide (40 < t.den.length) || decide (8 < t.row.length)))
theorem longTok_no {t : Tok} (h : longTok t = false) : t.text.length ≤ 60 ∧ t.num.length ≤ 40 ∧ t.den.length ≤ 40 ∧ t.row.length ≤ 8 := by
  unfold longTok at h
  simp only [Bool.or_eq_false_iff, decide_eq_false_iff_not] at h
  omega

set_option maxRecDepth 100000 in
set_option maxHeartbeats 1000000 in
theorem short1_any (t : Tok) (A : Option Addr) (n c : Nat) (w : World) (hn : n = t.row.length) :
    Calls Tryz.prog 60 #[.agg #[.int .i64 t.kind, .string ⟨t.text.toArray⟩, .string ⟨t.num.toArray⟩, .string ⟨t.den.toArray⟩, .slice A n c, .int .i64 t.line, .int .i64 t.col]] w fun e w' => e = .returned (.bool (longTok t)) ∧ Below w.heap.size w w' := by
  obtain ⟨kd, tx, nu, de, ro, li, co⟩ := t
  dsimp only at hn ⊢
  have HE : Box (longTok ⟨kd, tx, nu, de, ro, li, co⟩ = (decide (60 < tx.length) || (decide (40 < nu.length) || (decide (40 < de.length) || decide (8 < n))))) := ⟨by rw [hn]; rfl⟩
  generalize longTok ⟨kd, tx, nu, de, ro, li, co⟩ = out at *
  clear hn
  have hb : Below w.heap.size w (w.alloc (.cells #[.int .i64 kd, .string ⟨tx.toArray⟩, .string ⟨nu.toArray⟩, .string ⟨de.toArray⟩, .slice A n c, .int .i64 li, .int .i64 co] 38)) := (Below.refl _ _).alloc (Nat.le_refl _) _
  by_cases h1 : 60 < tx.length
  · have HF : Box (out = true) := ⟨by rw [HE.out, decide_eq_true h1]; rfl⟩
    clear HE
    go_enter Tryz.func60, Tryz.ntmps60
    go_wp2_with fail
    go_ret
    exact ⟨ret1 (congrArg Value.bool HF.out.symm), hb⟩
  by_cases h2 : 40 < nu.length
  · have HF : Box (out = true) := ⟨by rw [HE.out, decide_eq_true h2, Bool.true_or, Bool.or_true]⟩
    clear HE
    go_enter Tryz.func60, Tryz.ntmps60
    go_wp2_with fail
    go_ret
    exact ⟨ret1 (congrArg Value.bool HF.out.symm), hb⟩
  by_cases h3 : 40 < de.length
  · have HF : Box (out = true) := ⟨by rw [HE.out, decide_eq_true h3, Bool.true_or, Bool.or_true, Bool.or_true]⟩
    clear HE
    go_enter Tryz.func60, Tryz.ntmps60
    go_wp2_with fail
    go_ret
    exact ⟨ret1 (congrArg Value.bool HF.out.symm), hb⟩
  have HF : Box (out = decide (8 < n)) := ⟨by rw [HE.out, decide_eq_false h1, decide_eq_false h2, decide_eq_false h3]; rfl⟩
  clear HE
  go_enter Tryz.func60, Tryz.ntmps60
  go_wp2_with fail
  go_ret
  refine ⟨ret1 (congrArg Value.bool ?_), hb⟩
  rw [HF.out]
  rw [decide_eq_false (by omega : ¬ (60 : Int) < (tx.length : Int)), decide_eq_false (by omega : ¬ (40 : Int) < (nu.length : Int)), decide_eq_false (by omega : ¬ (40 : Int) < (de.length : Int)), Bool.false_or, Bool.false_or, Bool.false_or]
  exact decide_eq_decide.2 (by omega)

/-- All tokens are short. -/
def shortB (l : List Tok) : Bool := !l.any longTok
theorem shortB_all {l : List Tok} (h : shortB l = true) : ∀ t ∈ l, t.text.length ≤ 60 ∧ t.num.length ≤ 40 ∧ t.den.length ≤ 40 ∧ t.row.length ≤ 8 := by
  intro t ht
  unfold shortB at h
  have h2 : l.any longTok = false := by simpa using h
  exact longTok_no (by have := List.any_eq_false.1 h2 t ht; simpa using this)

set_option maxRecDepth 100000 in
set_option maxHeartbeats 1000000 in
theorem short_any (v : Value) (l : List Tok) (w : World) (h : IsToks w w.heap.size v l) :
    Calls Tryz.prog 13 #[v] w fun e w' => e = .returned (.bool (shortB l)) ∧ Below w.heap.size w w' := by
  have HI := Lib.hid (indexFunc_toks 60 longTok v l w h (.inl rfl) (Lib.hid fun t A n c W hn => short1_any t A n c W hn))
  have HA : Box (decide (0 ≤ idxF longTok 0 l) = l.any longTok) := ⟨idxF_any longTok l 0⟩
  have HC : Hid (Calls Tryz.prog 59 #[v, .func (.func 60) #[] #[]] w fun e w' => e = .returned (.bool (l.any longTok)) ∧ Below w.heap.size w w') := by
    refine Lib.hid ?_
    generalize idxF longTok 0 l = ix at *
    generalize l.any longTok = out at *
    obtain ⟨AX, cx, _, rfl, _⟩ := h
    go_enter Tryz.func59, Tryz.ntmps59
    go_wp2_with fail
    refine HI.out.mono ?_
    rintro e w1 ⟨rfl, hb1⟩
    go_wp2_with fail
    go_ret
    exact ⟨ret1 (congrArg Value.bool HA.out), hb1⟩
  have HE : Box (shortB l = !l.any longTok) := ⟨rfl⟩
  clear HI HA
  generalize shortB l = sb at *
  generalize l.any longTok = out at *
  obtain ⟨AX, cx, _, rfl, _⟩ := h
  go_enter Tryz.func13, Tryz.ntmps13
  go_wp2_with fail
  refine HC.out.mono ?_
  rintro e w1 ⟨rfl, hb1⟩
  go_wp2_with fail
  go_ret
  exact ⟨ret1 (congrArg Value.bool HE.out.symm), hb1⟩

end Go.Proofs.YtjgpjhaeoiddbaaGreatDoor
