/- Calls of a stream, as values. Arguments that came in, opened: slices of calls. -/
import Derived.Test.YtjgpjhaeoiddbaaGreatDoorGN
import Derived.Test.YtjgpjhaeoiddbaaGreatDoorGP
namespace Go.Proofs.YtjgpjhaeoiddbaaGreatDoor
open Go.RowKit Go.Lib

structure SCall where
  meth : Nat
  num : Int
  text : List UInt8
def SCall.Fits (c : SCall) : Prop := c.meth ≤ 255 ∧ -9223372036854775808 ≤ c.num ∧ c.num ≤ 9223372036854775807 ∧ c.text.length ≤ maxLen
def callVals (c : SCall) : List Value := [.int .u8 c.meth, .int .i64 c.num, .string ⟨c.text.toArray⟩]
def cflat : List SCall → List Value
  | [] => []
  | c :: l => callVals c ++ cflat l
theorem cflat_len : ∀ l : List SCall, (cflat l).length = l.length * 3
  | [] => rfl
  | c :: l => by
    rw [cflat, List.length_append, cflat_len l, List.length_cons]
    show 3 + l.length * 3 = _
    omega
theorem cflat_get : ∀ (l : List SCall) (k : Nat) (c : SCall) (j : Nat), l[k]? = some c → j < 3 → (cflat l)[k * 3 + j]? = (callVals c)[j]?
  | [], k, c, j, h, _ => by simp at h
  | a :: l, 0, c, j, h, hj => by
    simp at h
    subst h
    rw [cflat, Nat.zero_mul, Nat.zero_add, List.getElem?_append_left (by show j < 3; exact hj)]
  | a :: l, k + 1, c, j, h, hj => by
    rw [cflat, List.getElem?_append_right (by show 3 ≤ _; omega), show (k + 1) * 3 + j - (callVals a).length = k * 3 + j by show (k + 1) * 3 + j - 3 = _; omega]
    exact cflat_get l k c j (by simpa using h) hj

/-- A slice of calls. -/
def IsCalls (w : World) (B : Nat) (v : Value) (l : List SCall) : Prop := ∃ A c, v = .slice A l.length c ∧ l.length ≤ c ∧ c ≤ maxLen ∧ Row w B 3 A l.length (cflat l)
theorem IsCalls.keep {w w' : World} {B : Nat} {v : Value} {l : List SCall} (h : IsCalls w B v l) (hb : Below B w w') : IsCalls w' B v l := by
  obtain ⟨A, c, rfl, h1, h2, h3⟩ := h
  exact ⟨A, c, rfl, h1, h2, h3.below hb (Nat.le_refl _)⟩
theorem IsCalls.up {w : World} {B B' : Nat} {v : Value} {l : List SCall} (h : IsCalls w B v l) (hB : B ≤ B') : IsCalls w B' v l := by
  obtain ⟨A, c, rfl, h1, h2, h3⟩ := h
  exact ⟨A, c, rfl, h1, h2, h3.up hB⟩
theorem IsCalls.lift {w w' : World} {v : Value} {l : List SCall} (h : IsCalls w w.heap.size v l) (hb : Below w.heap.size w w') : IsCalls w' w'.heap.size v l := (h.keep hb).up hb.size
theorem IsCalls.at_ {w : World} {B : Nat} {A : Option Addr} {n c k : Nat} {l : List SCall} (h : IsCalls w B (.slice A n c) l) (hk : k < l.length) : ∃ b o, A = some ⟨b, o, Option.none⟩ ∧ b < B ∧ ∀ j, j < 3 → w.cell? ⟨b, o + k * 3 + j, Option.none⟩ = (callVals (l[k]'hk))[j]? := by
  obtain ⟨A', c', e, h1, h2, h4⟩ := h
  injection e with e1 e2 e3
  subst e1
  have hget : ∀ j, j < 3 → ∃ ad, A = some ad ∧ ad.block < B ∧ w.cell? (ad.add (k * 3 + j)) = (callVals (l[k]'hk))[j]? := by
    intro j hj
    have hf := cflat_get l k _ j (List.getElem?_eq_getElem hk) hj
    have hs : (callVals (l[k]'hk))[j]? = some ((callVals (l[k]'hk))[j]'(by show j < 3; exact hj)) := List.getElem?_eq_getElem _
    rw [hs] at hf ⊢
    obtain ⟨ad, ha, hb, hc⟩ := h4.get _ _ hf
    exact ⟨ad, ha, hb, hc⟩
  obtain ⟨ad, rfl, hb, hc0⟩ := hget 0 (by omega)
  have hpl : ∃ b o, ad = ⟨b, o, Option.none⟩ := by
    have h0l : 0 < (cflat l).length := by rw [cflat_len]; omega
    obtain ⟨ad2, e2, _, hc2⟩ := h4.get 0 _ (List.getElem?_eq_getElem h0l)
    injection e2 with e2
    subst e2
    have hz : ad.add 0 = ad := by unfold Addr.add; simp
    rw [hz] at hc2
    exact addr_plain hc2
  obtain ⟨b, o, rfl⟩ := hpl
  refine ⟨b, o, rfl, hb, fun j hj => ?_⟩
  obtain ⟨ad, e, _, hc⟩ := hget j hj
  injection e with e
  subst e
  rw [Lib.add_plain, ← Nat.add_assoc] at hc
  exact hc

end Go.Proofs.YtjgpjhaeoiddbaaGreatDoor

namespace Go.Proofs.YtjgpjhaeoiddbaaGreatDoor
open Go.ChangeShapes Go.WideShapes Go.ChangeAt Go.RowKit

section
variable {H : Type} {enc : TypeId × Value → H} {W : World} {held : Bool} {base : Nat} {d : DataW H} {ps : List MemPlace} {v : Value} {r : Reach}

set_option maxRecDepth 100000 in
theorem trod_call {fuel : Nat} {cs : List Value} {x : DataW H × List MemPlace} (h : DataW.trod enc Tryz.prog W 0 (fun _ => true) held fuel 29 cs = some x) :
    ∃ (c : SCall), cs = callVals c ∧ c.Fits := by
  have hc3 : Tryz.prog.cellsOf 29 = 3 := by kernel_rfl
  have hi1 : Tryz.prog.cellsOf 3 = 1 := by kernel_rfl
  have hs1 : Tryz.prog.cellsOf 9 = 1 := by kernel_rfl
  have hu1 : Tryz.prog.cellsOf 5 = 1 := by kernel_rfl
  obtain ⟨xs, m, _, _, hl, hx, hg⟩ := DataW.trod_struct Tryz.underlying29 h
  rw [hc3] at hl
  match cs, hl with
  | [c0, c1, c2], _ =>
    match xs, hx with
    | [x0, x1, x2], _ =>
      have g0 := hg 0 _ rfl
      have g1 := hg 1 _ rfl
      have g2 := hg 2 _ rfl
      simp [hi1, hs1, hu1] at g0 g1 g2
      obtain ⟨m, e0, _, w0⟩ := DataW.trod_int Tryz.underlying5 g0
      obtain ⟨k, e1, _, w1⟩ := DataW.trod_int Tryz.underlying3 g1
      obtain ⟨s, e2, _, w2⟩ := DataW.trod_string Tryz.underlying9 g2
      simp at e0 e1 e2
      subst e0 e1 e2
      have b0 := bounds_u8 w0
      have b1 := bounds_i64 w1
      refine ⟨⟨m.toNat, k, s.data.toList⟩, ?_, by show m.toNat ≤ 255; omega, b1.1, b1.2, Nat.le_trans (Nat.le_of_eq (size_list s)) w2⟩
      show _ = [Value.int .u8 ((m.toNat : Nat) : Int), _, _]
      rw [Int.toNat_of_nonneg b0.1]

set_option maxRecDepth 100000 in
theorem arg_calls (hv : Value.okWide Tryz.prog W r base 23 v) (h : DataW.Trod enc Tryz.prog W 0 (fun _ => true) held 23 v d ps) :
    ∃ l : List SCall, IsCalls W W.heap.size v l ∧ ∀ c ∈ l, c.Fits := by
  obtain ⟨A0, len0, cap0, rfl⟩ := okWide_slice Tryz.underlying23 hv
  have hc3 : Tryz.prog.cellsOf 29 = 3 := by kernel_rfl
  obtain ⟨fuel, hf⟩ := h
  rcases Go.Deep.open_slice Tryz.underlying23 hf with ⟨e, _⟩ | ⟨a, len, cap, m, n, D, Pl, e, _, hl, hm, hmm, _, hi⟩
  · simp [Value.cells] at e
    obtain ⟨rfl, rfl, rfl⟩ := e
    exact ⟨[], ⟨Option.none, 0, rfl, Nat.le_refl _, Nat.zero_le _, Row.nil _ _ _ _⟩, fun t h => by simp at h⟩
  · simp [Value.cells] at e
    obtain ⟨rfl, rfl, rfl⟩ := e
    have hlm : len0 ≤ m := by rw [hmm]; split <;> omega
    have each : ∀ i, i < len0 → ∃ (t : SCall), t.Fits ∧ ∀ j, j < 3 → W.cell? (a.add (i * 3 + j)) = (callVals t)[j]? := fun i hil => by
      obtain ⟨cs', h1, h2⟩ := hi i (by omega)
      rw [hc3] at h1
      obtain ⟨_, _, h3⟩ := World.cells?_some h1
      obtain ⟨t, e, h5⟩ := trod_call h2
      subst e
      refine ⟨t, h5, fun j hj => ?_⟩
      rw [← h3 j hj, add_add']
    have build : ∀ k, k ≤ len0 → ∃ (l : List SCall), l.length = k ∧ (∀ (i : Nat) t, l[i]? = some t → t.Fits ∧ ∀ j, j < 3 → W.cell? (a.add (i * 3 + j)) = (callVals t)[j]?) := by
      intro k
      induction k with
      | zero => exact fun _ => ⟨[], rfl, fun i t h => by simp at h⟩
      | succ k ih =>
        intro hk
        obtain ⟨l, hl1, hl3⟩ := ih (by omega)
        obtain ⟨t, h2, h3⟩ := each k (by omega)
        refine ⟨l ++ [t], by simp [hl1], fun i u hu => ?_⟩
        by_cases hik : i < k
        · rw [List.getElem?_append_left (by omega)] at hu
          exact hl3 i u hu
        · by_cases hik2 : i = k
          · subst hik2
            rw [List.getElem?_append_right (by omega), hl1, Nat.sub_self] at hu
            simp at hu
            subst hu
            exact ⟨h2, h3⟩
          · rw [List.getElem?_eq_none (by simp; omega)] at hu
            cases hu
    obtain ⟨l, h1, h3⟩ := build len0 (Nat.le_refl _)
    subst h1
    refine ⟨l, ⟨some a, cap0, rfl, hl, hm, ⟨cflat_len l, fun k u hu => ?_⟩⟩, fun t ht => ?_⟩
    · have hk : k < l.length * 3 := by rw [← cflat_len l]; exact (List.getElem?_eq_some_iff.1 hu).1
      have hk7 : k / 3 * 3 + k % 3 = k := Nat.div_add_mod' k 3
      have hlt : k / 3 < l.length := by omega
      have h4 := cflat_get l (k / 3) _ (k % 3) (List.getElem?_eq_getElem hlt) (Nat.mod_lt _ (by omega))
      have h5 := (h3 _ _ (List.getElem?_eq_getElem hlt)).2 (k % 3) (Nat.mod_lt _ (by omega))
      rw [hk7] at h4 h5
      rw [h4] at hu
      rw [hu] at h5
      exact ⟨a, rfl, by have := World.block_lt_of_cell? W _ h5; rw [add_block] at this; exact this, h5⟩
    · obtain ⟨i, hil, rfl⟩ := List.getElem_of_mem ht
      exact (h3 _ _ (List.getElem?_eq_getElem hil)).1
end

end Go.Proofs.YtjgpjhaeoiddbaaGreatDoor
