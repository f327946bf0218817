/- schismaref03.trim. schismaref03: SignW, Int. schismaref03.To: digits to the base 10^9 of a text of digits. schismaref03.To. schismaref03.To of the text of an integer, and Of. schismaref03.little: a fraction of two small numbers. schismaref03.Make of two small numbers, Frac(3, 2). schismaref03.Frac of two small numbers. -/
import Derived.Test.YteenfcmnmenigaaGreatDoorGL
import Derived.Test.YteenfcmnmenigaaGreatDoorGE
import Derived.Test.YteenfcmnmenigaaGreatDoorGK
import Derived.Test.YteenfcmnmenigaaGreatDoorFAnyG
import Derived.BigQuiet
import Derived.Deep.RegionHeld3
import Derived.Test.YteenfcmnmenigaaGreatDoorGD
namespace Go.Proofs.YteenfcmnmenigaaGreatDoor
open Go.RowKit Go.Lib

/-- How many elements stay if zeros at the end are left out. -/
def keepLen (x : List Int) : Nat → Nat
  | 0 => 0
  | k + 1 => if x[k]?.getD 0 = 0 then keepLen x k else k + 1
theorem keepLen_le (x : List Int) : ∀ k, keepLen x k ≤ k
  | 0 => Nat.le_refl _
  | k + 1 => by
    rw [keepLen]
    split
    · have := keepLen_le x k; omega
    · exact Nat.le_refl _

theorem IsRow.cut {w : World} {B k c n : Nat} {A : Option Addr} {x : List Int} (h : IsRow w B (.slice A n c) x) (hk : k ≤ x.length) : IsRow w B (.slice A k c) (x.take k) := by
  obtain ⟨A', c', e, h1, h2, h3⟩ := h
  injection e with e1 _ e3
  subst e1 e3
  have hl : (x.take k).length = k := by rw [List.length_take]; omega
  refine ⟨A, c, by rw [hl], by omega, h2, ?_⟩
  rw [hl, show is (x.take k) = (is x).take k by unfold is; rw [List.map_take]]
  exact h3.take hk

set_option maxRecDepth 100000 in
set_option maxHeartbeats 2000000 in
theorem trim03_at (b : Bool) (A : Option Addr) (c : Nat) (x : List Int) (w : World) (hv : IsRow w w.heap.size (.slice A x.length c) x) :
    Calls Tryz.prog 132 #[.agg #[.bool b, .slice A x.length c]] w fun e w' => e = .returned (.agg #[.bool (b && decide (0 < keepLen x x.length)), .slice A (keepLen x x.length) c]) ∧ Below w.heap.size w w' := by
  have HV := Lib.hid hv
  obtain ⟨A', c', e', hc1, hc2, _⟩ := hv
  injection e' with e1 _ e3
  subst e1 e3
  have hmx : x.length ≤ 9223372036854775807 := by unfold maxLen at hc2; omega
  obtain ⟨K, HK⟩ : ∃ K, Box (keepLen x x.length = K) := ⟨_, ⟨rfl⟩⟩
  rw [HK.out]
  clear hc1 hc2
  cases b with
  | false =>
    go_enter Tryz.func132, Tryz.ntmps132
    go_wp2_with fail
    obtain ⟨W0, hW0⟩ : ∃ W0, W0 = (w.alloc (.cells #[.bool false, .slice A x.length c] 110)).alloc (.cells #[.bool false, .slice Option.none 0 0] 110) := ⟨_, rfl⟩
    rw [← hW0]
    have C1 : Hid (Cells W0 w.heap.size 110 [.bool false, .slice A x.length c]) := Lib.hid (by rw [hW0]; exact (Cells.new w _ _).alloc _)
    have C2 : Hid (Cells W0 (w.heap.size + 1) 110 [.bool false, .slice Option.none 0 0]) := Lib.hid (by rw [hW0]; have := Cells.new (w.alloc (.cells #[.bool false, .slice A x.length c] 110)) 110 #[.bool false, .slice Option.none 0 0]; rw [World.size_alloc] at this; exact this)
    have hbw : Below w.heap.size w W0 := by rw [hW0]; exact ((Below.refl _ _).alloc (Nat.le_refl _) _).alloc (by simp) _
    clear hW0
    go_loopg [3] x.length (fun g _ wr => g ≤ x.length ∧ Box (keepLen x g = K) ∧ Cells wr w.heap.size 110 [.bool false, .slice A g c] ∧ Cells wr (w.heap.size + 1) 110 [.bool false, .slice Option.none 0 0] ∧ Below w.heap.size w wr)
    case atStart => exact ⟨Nat.le_refl _, HK, C1.out, C2.out, hbw⟩
    case round =>
      clear C1 C2 hbw
      obtain ⟨hg, HKg, hc1, hc2, hbw⟩ := hrel
      have C1 := Lib.hid hc1
      have C2 := Lib.hid hc2
      have q0 := hc1.cell 0
      have q1 := hc1.cell 1
      have f0 := hc1.free 0
      have f1 := hc1.free 1
      have r0 := hc2.cell 0
      have r1 := hc2.cell 1
      have s0 := hc2.free 0
      have s1 := hc2.free 1
      simp only [List.getElem?_cons_succ, List.getElem?_cons_zero] at q0 q1 r0 r1
      clear hc1 hc2
      cases gk with
      | zero =>
        have HE : Box (K = 0) := ⟨HKg.out.symm⟩
        have hbe : Below w.heap.size w (((wr.setCell ⟨w.heap.size, 0, Option.none⟩ (.bool false)).setCell ⟨w.heap.size + 1, 0, Option.none⟩ (.bool false)).setCell ⟨w.heap.size + 1, 1, Option.none⟩ (.slice A 0 c)) := ((hbw.setCell (Nat.le_refl _) _).setCell (Nat.le_succ _) _).setCell (Nat.le_succ _) _
        go_wp2_with fail
        refine bodyPost_ret (v := .agg #[.bool false, .slice A 0 c]) (by simp [results, Tryz.results132, go_sem, r0, r1]) rfl ⟨by simp [HE.out], hbe⟩
      | succ k =>
        have hkx : k < x.length := by omega
        obtain ⟨A2, c2, e, _, _, hr⟩ := HV.out
        injection e with e1 _ e3
        subst e1 e3
        obtain ⟨ad, rfl, _, hca⟩ := (hr.below hbw (Nat.le_refl _)).i_at hkx
        have HS : Box ((x[k]?.getD 0 = 0 → keepLen x k = K) ∧ (x[k]?.getD 0 ≠ 0 → K = k + 1)) := ⟨by
          have h := HKg.out
          rw [keepLen] at h
          refine ⟨fun h0 => by rw [if_pos h0] at h; exact h, fun h0 => by rw [if_neg h0] at h; exact h.symm⟩⟩
        generalize x[k]?.getD 0 = z at *
        clear hr
        by_cases hz : z = 0
        · have HN : Box (keepLen x k = K) := ⟨HS.out.1 hz⟩
          have hz1 : (z == 0) = true := by simpa using hz
          clear hz HS
          go_wp2_with fail
          go_roundg k
          case measure => omega
          case rel => exact ⟨by omega, HN, C1.out.set 1 _, C2.out.far (by show w.heap.size + 1 ≠ w.heap.size; omega) _, hbw.setCell (Nat.le_refl _) _⟩
        · have HE : Box (K = k + 1) := ⟨HS.out.2 hz⟩
          have hz1 : (z == 0) = false := by simpa using hz
          clear hz HS
          have hbe : Below w.heap.size w (((wr.setCell ⟨w.heap.size, 0, Option.none⟩ (.bool false)).setCell ⟨w.heap.size + 1, 0, Option.none⟩ (.bool false)).setCell ⟨w.heap.size + 1, 1, Option.none⟩ (.slice (some ad) (k + 1) c)) := ((hbw.setCell (Nat.le_refl _) _).setCell (Nat.le_succ _) _).setCell (Nat.le_succ _) _
          go_wp2_with fail
          refine bodyPost_ret (v := .agg #[.bool false, .slice (some ad) (k + 1) c]) (by simp [results, Tryz.results132, go_sem, r0, r1]) rfl ⟨by simp [HE.out], hbe⟩
  | true =>
    go_enter Tryz.func132, Tryz.ntmps132
    go_wp2_with fail
    obtain ⟨W0, hW0⟩ : ∃ W0, W0 = (w.alloc (.cells #[.bool true, .slice A x.length c] 110)).alloc (.cells #[.bool false, .slice Option.none 0 0] 110) := ⟨_, rfl⟩
    rw [← hW0]
    have C1 : Hid (Cells W0 w.heap.size 110 [.bool true, .slice A x.length c]) := Lib.hid (by rw [hW0]; exact (Cells.new w _ _).alloc _)
    have C2 : Hid (Cells W0 (w.heap.size + 1) 110 [.bool false, .slice Option.none 0 0]) := Lib.hid (by rw [hW0]; have := Cells.new (w.alloc (.cells #[.bool true, .slice A x.length c] 110)) 110 #[.bool false, .slice Option.none 0 0]; rw [World.size_alloc] at this; exact this)
    have hbw : Below w.heap.size w W0 := by rw [hW0]; exact ((Below.refl _ _).alloc (Nat.le_refl _) _).alloc (by simp) _
    clear hW0
    go_loopg [3] x.length (fun g _ wr => g ≤ x.length ∧ Box (keepLen x g = K) ∧ Cells wr w.heap.size 110 [.bool true, .slice A g c] ∧ Cells wr (w.heap.size + 1) 110 [.bool false, .slice Option.none 0 0] ∧ Below w.heap.size w wr)
    case atStart => exact ⟨Nat.le_refl _, HK, C1.out, C2.out, hbw⟩
    case round =>
      clear C1 C2 hbw
      obtain ⟨hg, HKg, hc1, hc2, hbw⟩ := hrel
      have C1 := Lib.hid hc1
      have C2 := Lib.hid hc2
      have q0 := hc1.cell 0
      have q1 := hc1.cell 1
      have f0 := hc1.free 0
      have f1 := hc1.free 1
      have r0 := hc2.cell 0
      have r1 := hc2.cell 1
      have s0 := hc2.free 0
      have s1 := hc2.free 1
      simp only [List.getElem?_cons_succ, List.getElem?_cons_zero] at q0 q1 r0 r1
      clear hc1 hc2
      cases gk with
      | zero =>
        have HE : Box (K = 0) := ⟨HKg.out.symm⟩
        have hbe : Below w.heap.size w (((wr.setCell ⟨w.heap.size, 0, Option.none⟩ (.bool false)).setCell ⟨w.heap.size + 1, 0, Option.none⟩ (.bool false)).setCell ⟨w.heap.size + 1, 1, Option.none⟩ (.slice A 0 c)) := ((hbw.setCell (Nat.le_refl _) _).setCell (Nat.le_succ _) _).setCell (Nat.le_succ _) _
        go_wp2_with fail
        refine bodyPost_ret (v := .agg #[.bool false, .slice A 0 c]) (by simp [results, Tryz.results132, go_sem, r0, r1]) rfl ⟨by simp [HE.out], hbe⟩
      | succ k =>
        have hkx : k < x.length := by omega
        obtain ⟨A2, c2, e, _, _, hr⟩ := HV.out
        injection e with e1 _ e3
        subst e1 e3
        obtain ⟨ad, rfl, _, hca⟩ := (hr.below hbw (Nat.le_refl _)).i_at hkx
        have HS : Box ((x[k]?.getD 0 = 0 → keepLen x k = K) ∧ (x[k]?.getD 0 ≠ 0 → K = k + 1)) := ⟨by
          have h := HKg.out
          rw [keepLen] at h
          refine ⟨fun h0 => by rw [if_pos h0] at h; exact h, fun h0 => by rw [if_neg h0] at h; exact h.symm⟩⟩
        generalize x[k]?.getD 0 = z at *
        clear hr
        by_cases hz : z = 0
        · have HN : Box (keepLen x k = K) := ⟨HS.out.1 hz⟩
          have hz1 : (z == 0) = true := by simpa using hz
          clear hz HS
          go_wp2_with fail
          go_roundg k
          case measure => omega
          case rel => exact ⟨by omega, HN, C1.out.set 1 _, C2.out.far (by show w.heap.size + 1 ≠ w.heap.size; omega) _, hbw.setCell (Nat.le_refl _) _⟩
        · have HE : Box (K = k + 1) := ⟨HS.out.2 hz⟩
          have hz1 : (z == 0) = false := by simpa using hz
          clear hz HS
          have hbe : Below w.heap.size w (((wr.setCell ⟨w.heap.size, 0, Option.none⟩ (.bool true)).setCell ⟨w.heap.size + 1, 0, Option.none⟩ (.bool true)).setCell ⟨w.heap.size + 1, 1, Option.none⟩ (.slice (some ad) (k + 1) c)) := ((hbw.setCell (Nat.le_refl _) _).setCell (Nat.le_succ _) _).setCell (Nat.le_succ _) _
          go_wp2_with fail
          refine bodyPost_ret (v := .agg #[.bool true, .slice (some ad) (k + 1) c]) (by simp [results, Tryz.results132, go_sem, r0, r1]) rfl ⟨by simp [HE.out], hbe⟩

theorem trim03_any (b : Bool) (v : Value) (x : List Int) (w : World) (hv : IsRow w w.heap.size v x) :
    Calls Tryz.prog 132 #[.agg #[.bool b, v]] w fun e w' => (∃ A c, e = .returned (.agg #[.bool (b && decide (0 < keepLen x x.length)), .slice A (keepLen x x.length) c]) ∧ IsRow w' w'.heap.size (.slice A (keepLen x x.length) c) (x.take (keepLen x x.length))) ∧ Below w.heap.size w w' := by
  have hv' := hv
  obtain ⟨A, c, rfl, _⟩ := hv'
  refine (trim03_at b A c x w hv).mono ?_
  rintro e w' ⟨rfl, hb⟩
  exact ⟨⟨A, c, rfl, (hv.cut (keepLen_le x _)).lift hb⟩, hb⟩

end Go.Proofs.YteenfcmnmenigaaGreatDoor

namespace Go.Proofs.YteenfcmnmenigaaGreatDoor
open Go.RowKit Go.Lib

def sign03 (b : Bool) (x : List Int) : Int := if x.length = 0 then 0 else if b then -1 else 1

set_option maxRecDepth 100000 in
theorem sign03_any (b : Bool) (v : Value) (x : List Int) (w : World) (hv : IsRow w w.heap.size v x) :
    Calls Tryz.prog 126 #[.agg #[.bool b, v]] w fun e w' => e = .returned (.int .i64 (sign03 b x)) ∧ Below w.heap.size w w' := by
  obtain ⟨A, c, rfl, hc1, hc2, _⟩ := hv
  have hmx : x.length ≤ 9223372036854775807 := by unfold maxLen at hc2; omega
  clear hc1 hc2
  by_cases h0 : x.length = 0
  · have HE : Box (sign03 b x = 0) := ⟨by unfold sign03; rw [if_pos h0]⟩
    have hz : ((x.length : Int) == 0) = true := by rw [h0]; rfl
    clear h0
    go_enter Tryz.func126, Tryz.ntmps126
    go_wp2_with fail
    go_ret
    exact ⟨ret_int HE.out.symm, (Below.refl _ _).alloc (Nat.le_refl _) _⟩
  · have hz : ((x.length : Int) == 0) = false := by rw [beq_eq_false_iff_ne]; omega
    cases b with
    | false =>
      have HE : Box (sign03 false x = 1) := ⟨by unfold sign03; rw [if_neg h0]; rfl⟩
      clear h0
      go_enter Tryz.func126, Tryz.ntmps126
      go_wp2_with fail
      go_ret
      exact ⟨ret_int HE.out.symm, (Below.refl _ _).alloc (Nat.le_refl _) _⟩
    | true =>
      have HE : Box (sign03 true x = -1) := ⟨by unfold sign03; rw [if_neg h0]; rfl⟩
      clear h0
      go_enter Tryz.func126, Tryz.ntmps126
      go_wp2_with fail
      go_ret
      exact ⟨ret_int HE.out.symm, (Below.refl _ _).alloc (Nat.le_refl _) _⟩

set_option maxRecDepth 100000 in
theorem int03_any (y : Int) (w : World) (hS : Std w) (h1 : -9223372036854775808 ≤ y) (h2 : y ≤ 9223372036854775807) :
    Calls Tryz.prog 134 #[.int .i64 y] w fun e w' => e = .returned (.string ⟨(itoa y).toArray⟩) ∧ Below w.heap.size w w' := by
  have HI := Lib.hid (Tryz.strconv_Itoa y (by omega) (by omega) w hS.tab)
  generalize itoa y = l at *
  go_enter Tryz.func134, Tryz.ntmps134
  go_wp2_with fail
  refine HI.out.mono ?_
  rintro e w2 ⟨rfl, hw⟩
  have hb2 := grow_below hw
  clear hw
  go_wp2_with fail
  go_ret
  exact ⟨rfl, hb2⟩

end Go.Proofs.YteenfcmnmenigaaGreatDoor

namespace Go.Proofs.YteenfcmnmenigaaGreatDoor
open Go.RowKit Go.Lib

/-- The values of the pieces of nine digits, from the end. -/
def chunk : Nat → List UInt8 → List Nat
  | 0, _ => []
  | f + 1, d => if d.isEmpty then [] else dval 0 (d.drop (d.length - 9)) :: chunk f (d.take (d.length - 9))

theorem atoi_digits {l : List UInt8} (h0 : l ≠ []) (hd : ∀ c ∈ l, isDig c) (hv : dval 0 l < 9223372036854775808) : atoiAll l = .ok ((dval 0 l : Nat) : Int) := by
  have hm : parseMag l = .ok (dval 0 l) := by
    unfold parseMag
    rw [if_neg h0, parse_run l 0 hd (by omega)]
  match l, hm, hd, h0 with
  | c :: r, hm, hd, _ =>
    have hc := hd c (by simp)
    unfold isDig at hc
    simp only [atoiAll]
    rw [if_neg (by omega), hm]
    simp only []
    rw [if_neg (by omega), if_neg (by omega), if_neg (by omega)]

theorem atoi_dig (l : List UInt8) (w : World) (h0 : l ≠ []) (hd : ∀ c ∈ l, isDig c) (h9 : l.length ≤ 9) :
    Calls Tryz.prog 56 #[.string ⟨l.toArray⟩] w fun e w' => e = .returned (.tuple #[.int .i64 ((dval 0 l : Nat) : Int), .nilIface]) ∧ Below w.heap.size w w' := by
  have hv : dval 0 l < 9223372036854775808 := by
    have h1 := dval_lt0 l hd
    have h2 : 10 ^ l.length ≤ 10 ^ 9 := Nat.pow_le_pow_right (by omega) h9
    have h3 : (10 : Nat) ^ 9 = 1000000000 := by decide
    omega
  exact (Tryz.strconv_Atoi_ok ⟨l.toArray⟩ (by simp [ByteArray.size]; omega) _ (by simpa using atoi_digits h0 hd hv) w).mono fun _ _ ⟨h, hw⟩ => ⟨h, bytes_below' hw⟩

theorem chunk_pcs : ∀ (f n : Nat), 0 < n → (decDigits n).length ≤ f → chunk f (decDigits n) = pcs n
  | 0, n, h0, h => absurd (List.eq_nil_of_length_eq_zero (by omega)) (dec_ne_nil n)
  | f + 1, n, h0, h => by
    have hne : (decDigits n).isEmpty = false := by cases hd : decDigits n with | nil => exact absurd hd (dec_ne_nil n) | cons _ _ => rfl
    rw [chunk, hne, if_neg (by decide), pcs_pos h0]
    by_cases h9 : n < 1000000000
    · have hl : (decDigits n).length ≤ 9 := by rw [dec_length]; exact nDigits_le (by omega) (by simpa using h9)
      rw [Nat.sub_eq_zero_of_le hl, List.drop_zero, List.take_zero, dval_dec, Nat.mod_eq_of_lt h9, Nat.div_eq_of_lt h9, pcs_zero]
      cases f with
      | zero => rfl
      | succ f => rfl
    · have hm : 0 < n / 1000000000 := by omega
      have e9 : (10 : Nat) ^ 9 = 1000000000 := by decide
      have hs := dec_lows 9 (n % 1000000000) (n / 1000000000) (by rw [e9]; exact Nat.mod_lt _ (by omega)) hm
      rw [e9, Nat.mod_add_div] at hs
      have hll : (lows 9 (n % 1000000000)).reverse.length = 9 := by rw [List.length_reverse, lows_length]
      have hlen : (decDigits n).length - 9 = (decDigits (n / 1000000000)).length := by rw [hs, List.length_append, hll]; omega
      have hdr : (decDigits n).drop ((decDigits n).length - 9) = (lows 9 (n % 1000000000)).reverse := by rw [hlen, hs, List.drop_left' rfl]
      have htk : (decDigits n).take ((decDigits n).length - 9) = decDigits (n / 1000000000) := by rw [hlen, hs, List.take_left' rfl]
      have hv : dval 0 (lows 9 (n % 1000000000)).reverse = n % 1000000000 := by
        have h1 := dval_dec n
        rw [hs, dval_append, dval_dec, dval_acc, hll, e9] at h1
        omega
      rw [hdr, htk, hv, chunk_pcs f (n / 1000000000) hm (by have : (decDigits n).length - 9 < f + 1 := by omega
                                                            rw [hlen] at this
                                                            have h10 : 9 < (decDigits n).length := by rw [hs, List.length_append, hll]; have := List.length_pos_iff.2 (dec_ne_nil (n / 1000000000)); omega
                                                            omega)]

end Go.Proofs.YteenfcmnmenigaaGreatDoor

namespace Go.Proofs.YteenfcmnmenigaaGreatDoor
open Go.RowKit Go.Lib

theorem TRow.set {w : World} {v : Value} {x : List Int} (h : TRow w v x) {g k : Nat} {T : TypeId} {xs : List Value} (hc : Cells w g T xs) (hT : T ≠ 3) (u : Value) : TRow (w.setCell ⟨g, k, Option.none⟩ u) v x := h.keep fun g' cur p hcur => Below.heap_setCell _ _ _ _ (fun e => by
  change g' = g at e
  subst e
  unfold Cells at hc
  rw [hc] at hcur
  injection hcur with hcur
  injection hcur with _ hcur _
  exact hT hcur)
theorem TRow.cut {w : World} {k c n : Nat} {A : Option Addr} {x : List Int} (h : TRow w (.slice A n c) x) (hk : k ≤ x.length) : TRow w (.slice A k c) (x.take k) := by
  obtain ⟨A', c', e, h1, h2, h3⟩ := h
  injection e with e1 _ e3
  subst e1 e3
  have hl : (x.take k).length = k := by rw [List.length_take]; omega
  refine ⟨A, c, by rw [hl], by omega, h2, fun h0 => ?_⟩
  obtain ⟨g, o, cur, p, ha, hg, hc⟩ := h3 (by omega)
  refine ⟨g, o, cur, p, ha, hg, fun j hj => ?_⟩
  rw [hl] at hj
  rw [hc j (by omega), List.getElem?_take, if_pos hj]
theorem own_setB {w : World} {base : Nat} {e : TypeId} {size : Nat} {v : Value} {n : Nat} {xs : List Value} (h : w.ownsRow base e size v n xs) {g k : Nat} (hg : g < base) (u : Value) : (w.setCell ⟨g, k, Option.none⟩ u).ownsRow base e size v n xs := by
  refine ⟨h.1, ?_⟩
  rcases h.2 with hn | ⟨g', cap, cur, rfl, hb, hh, rest⟩
  · exact .inl hn
  · exact .inr ⟨g', cap, cur, rfl, hb, (Below.heap_setCell _ _ _ _ (by show g' ≠ g; omega)).trans hh, rest⟩
theorem setCell_size (w : World) (p : Addr) (u : Value) : (w.setCell p u).heap.size = w.heap.size := by simp [World.setCell]

set_option maxRecDepth 100000 in
set_option maxHeartbeats 2000000 in
theorem to03_neg (s d : List UInt8) (w : World) (hp : Lib.hasPrefix s [45] = true) (hd0 : s.drop 1 = d) (hdg : ∀ c ∈ d, isDig c) (hdl : d.length ≤ 50000) (hsl : s.length ≤ 60000) :
    Calls Tryz.prog 133 #[.string ⟨s.toArray⟩] w fun e w' => (∃ A c, e = .returned (.agg #[.bool (true && decide (0 < keepLen ((chunk d.length d).map Int.ofNat) ((chunk d.length d).map Int.ofNat).length)), .slice A (keepLen ((chunk d.length d).map Int.ofNat) ((chunk d.length d).map Int.ofNat).length) c]) ∧ TRow w' (.slice A (keepLen ((chunk d.length d).map Int.ofNat) ((chunk d.length d).map Int.ofNat).length) c) (((chunk d.length d).map Int.ofNat).take (keepLen ((chunk d.length d).map Int.ofNat) ((chunk d.length d).map Int.ofNat).length))) ∧ Below w.heap.size w w' := by
  obtain ⟨i0, hi0, hz0, hz1, hz2⟩ := info_parts Tryz.info_int
  have HX : Hid (∀ W, Calls Tryz.prog 174 #[.string ⟨s.toArray⟩, .string ⟨#[45]⟩] W fun e w' => e = .returned (.bool true) ∧ Below W.heap.size W w') := Lib.hid (fun W => hp ▸ hasPrefix_any s [45] W)
  have hxs : (⟨s.toArray⟩ : ByteArray).extract 1 s.length = ⟨d.toArray⟩ := ba_ext (by rw [ext_eq, mk_toList, mk_toList, List.take_of_length_le (Nat.le_refl _), hd0])
  have hs1 : 1 ≤ s.length := by cases s with | nil => cases hp | cons _ _ => simp
  clear hp hd0
  obtain ⟨XS, HXS⟩ : ∃ XS, Box ((chunk d.length d).map Int.ofNat = XS) := ⟨_, ⟨rfl⟩⟩
  rw [HXS.out]
  go_enter Tryz.func133, Tryz.ntmps133
  go_wp2_with fail
  refine (HX.out _).mono ?_
  rintro e w1 ⟨rfl, hb1⟩
  rw [World.size_alloc] at hb1
  have CR0 := cells_of_below hb1
  have hbw1 := below_result hb1
  have hsz1 := size_below hb1
  clear hb1
  obtain ⟨W0, hW0⟩ : ∃ W0, W0 = w1.alloc (.cells #[.bool true, .slice Option.none 0 0] 110) := ⟨_, rfl⟩
  have C1 : Hid (Cells W0 w1.heap.size 110 [.bool true, .slice Option.none 0 0]) := Lib.hid (by rw [hW0]; exact Cells.new w1 _ _)
  have CR : Hid (Cells W0 w.heap.size 110 [.bool false, .slice Option.none 0 0]) := Lib.hid (by rw [hW0]; exact CR0.alloc _)
  have hbw : Below w.heap.size w W0 := by rw [hW0]; exact hbw1.alloc hbw1.size _
  have HBS : Box (W0.heap.size = w1.heap.size + 1) := ⟨by rw [hW0, World.size_alloc]⟩
  go_wp2_with fail
  rw [← hW0]
  clear hW0 hbw1 CR0
  go_loopg [3] d.length (fun g tv wr => ∃ (f : Nat) (t : List UInt8) (acc : List Nat) (dv : Value), tv = .string ⟨t.toArray⟩ ∧ g = t.length ∧ t.length ≤ f ∧ (∀ c ∈ t, isDig c) ∧ t.length ≤ 50000 ∧ acc.length + t.length ≤ 50000 ∧ Box (acc ++ chunk f t = chunk d.length d) ∧ Cells wr w1.heap.size 110 [.bool true, dv] ∧ Cells wr w.heap.size 110 [.bool false, .slice Option.none 0 0] ∧ wr.ownsRow W0.heap.size 3 1 dv acc.length (is (acc.map Int.ofNat)) ∧ Below w.heap.size w wr ∧ W0.heap.size ≤ wr.heap.size)
  case atStart => exact ⟨d.length, d, [], _, rfl, rfl, Nat.le_refl _, hdg, hdl, by simpa using hdl, ⟨rfl⟩, C1.out, CR.out, World.ownsRow_nil _ _ _ _, hbw, Nat.le_refl _⟩
  case round =>
    clear C1 CR hbw
    obtain ⟨f, t, acc, dv, rfl, rfl, hf, htd, htl, hal, HCH, hc1, hcr, hown, hbw, hws⟩ := hrel
    have C1 := Lib.hid hc1
    have CR := Lib.hid hcr
    have HO := Lib.hid hown
    have HTD : Box (∀ c ∈ t, isDig c) := ⟨htd⟩
    have q0 := hc1.cell 0
    have q1 := hc1.cell 1
    have f0 := hc1.free 0
    have f1 := hc1.free 1
    simp only [List.getElem?_cons_succ, List.getElem?_cons_zero] at q0 q1
    clear hc1 hcr hown htd
    by_cases ht : t = []
    · subst ht
      have HD : Box (acc = chunk d.length d) := ⟨by have h := HCH.out; cases f with | zero => simpa [chunk] using h | succ f => simpa [chunk] using h⟩
      have hti := TRow.of_own (x := acc.map Int.ofNat) (by simpa using HO.out)
      rw [HD.out, HXS.out] at hti
      have hti' := hti
      obtain ⟨AX, cx, e, _⟩ := hti'
      subst e
      have HTR := Lib.hid (trim03_at true AX cx XS wr hti.isRow)
      have HTI := Lib.hid hti
      clear HD hti HCH
      go_wp2_with fail
      refine HTR.out.mono ?_
      rintro e w5 ⟨rfl, hb5⟩
      have HT5 := Lib.hid (HTI.out.below hb5)
      have CR2 := CR.out.below hb5 CR.out.lt
      have HCR2 := Lib.hid CR2
      have r0 := CR2.cell 0
      have r1 := CR2.cell 1
      have s0 := CR2.free 0
      have s1 := CR2.free 1
      simp only [List.getElem?_cons_succ, List.getElem?_cons_zero] at r0 r1
      have hbn := hbw.trans (hb5.mono hbw.size)
      clear hb5 CR2
      have HKL : Box (keepLen XS XS.length ≤ XS.length) := ⟨keepLen_le _ _⟩
      have hbe : Below w.heap.size w ((w5.setCell ⟨w.heap.size, 0, Option.none⟩ (.bool (true && decide (0 < keepLen XS XS.length)))).setCell ⟨w.heap.size, 1, Option.none⟩ (.slice AX (keepLen XS XS.length) cx)) := (hbn.setCell (Nat.le_refl _) _).setCell (Nat.le_refl _) _
      go_wp2_with fail
      refine bodyPost_ret (v := .agg #[.bool (true && decide (0 < keepLen XS XS.length)), .slice AX (keepLen XS XS.length) cx]) (by simp [results, Tryz.results133, go_sem, r0, r1]) rfl ⟨⟨AX, cx, rfl, ?_⟩, ?_⟩
      · exact (((HT5.out.set HCR2.out (by decide) _).set (HCR2.out.set 0 _) (by decide) _)).cut HKL.out
      · exact (hbn.setCell (Nat.le_refl _) _).setCell (Nat.le_refl _) _
    · have ht0 : 0 < t.length := List.length_pos_iff.2 ht
      obtain ⟨f, rfl⟩ : ∃ f', f = f' + 1 := ⟨f - 1, by omega⟩
      have HN : Box (acc ++ [dval 0 (t.drop (t.length - 9))] ++ chunk f (t.take (t.length - 9)) = chunk d.length d) := ⟨by
        rw [← HCH.out, chunk, if_neg (by simpa using ht)]
        simp⟩
      have HAT := Lib.hid (fun W => atoi_dig (t.drop (t.length - 9)) W (fun h => by have := congrArg List.length h; rw [List.length_drop] at this; simp at this; omega) (fun c hc => HTD.out c (List.mem_of_mem_drop hc)) (by rw [List.length_drop]; omega))
      have hx1 : (⟨t.toArray⟩ : ByteArray).extract (t.length - 9) t.length = ⟨(t.drop (t.length - 9)).toArray⟩ := ba_ext (by rw [ext_eq, mk_toList, mk_toList, List.take_of_length_le (Nat.le_refl _)])
      have hx2 : (⟨t.toArray⟩ : ByteArray).extract 0 (t.length - 9) = ⟨(t.take (t.length - 9)).toArray⟩ := ba_ext (by rw [ext_eq]; simp)
      have HTT : Box (∀ c ∈ t.take (t.length - 9), isDig c) := ⟨fun c hc => HTD.out c (List.mem_of_mem_take hc)⟩
      have HTL : Box ((t.take (t.length - 9)).length = t.length - 9) := ⟨by rw [List.length_take]; omega⟩
      generalize dval 0 (t.drop (t.length - 9)) = dg at *
      generalize t.drop (t.length - 9) = td at *
      generalize t.take (t.length - 9) = tt at *
      clear ht HCH
      obtain ⟨m, hm⟩ : ∃ m, t.length - 9 = m := ⟨_, rfl⟩
      rw [hm] at hx1 hx2 HTL
      have hmx : max (0 : Int) ((t.length : Int) - 9) = (m : Int) := by omega
      have hml : m < t.length := by omega
      have hml2 : (m : Int) ≤ (t.length : Int) := by omega
      clear hm
      go_wp2_with fail
      refine (HAT.out _).mono ?_
      rintro e w5 ⟨rfl, hb5⟩
      have hown2 := own_below HO.out hb5
      have C3 := C1.out.below hb5 C1.out.lt
      have CR3 := CR.out.below hb5 CR.out.lt
      have hb6 := hbw.trans (hb5.mono hbw.size)
      have hws5 := Nat.le_trans hws hb5.size
      have z0 := C3.cell 0
      have z1 := C3.cell 1
      have g0 := C3.free 0
      have g1 := C3.free 1
      simp only [List.getElem?_cons_succ, List.getElem?_cons_zero] at z0 z1
      clear hb5 q0 q1 f0 f1
      go_wp2_with (at_builtin; refine wpList_append_own _ rfl _ _ _ rfl W0.heap.size 3 i0 (.int .i64 0) 1 8 Tryz.underlying22 hi0 hz0 hz1 hz2 rfl (by decide) _ _ _ rfl (hown2.alloc _) ⟨w5.heap.size, 0, Option.none⟩ 1 1 [_] rfl rfl (cell_one_new _ _ _) (by intro u hu; simp at hu; subst hu; rfl) (by unfold maxLen; omega) (by omega) (by simp; omega) ?_)
      intro v3 w3 hown3 hg3 _
      have C4 := (C3.alloc (.cells #[.int .i64 (dg : Int)] 3)).grown hg3 (fun e => by have hbs := HBS.out; have := (hown2.lt _ e.symm).1; omega)
      have CR4 := (CR3.alloc (.cells #[.int .i64 (dg : Int)] 3)).grown hg3 (fun e => by have hbs := HBS.out; have := (hown2.lt _ e.symm).1; omega)
      have y0 := C4.cell 0
      have y1 := C4.cell 1
      have x0 := C4.free 0
      have x1 := C4.free 1
      simp only [List.getElem?_cons_succ, List.getElem?_cons_zero] at y0 y1
      obtain ⟨ga, cap, rfl⟩ : ∃ ga cap, v3 = .slice (some ⟨ga, 0, Option.none⟩) (acc.length + 1) cap := by
        rcases hown3.2 with ⟨_, h0⟩ | ⟨ga, cap, cur, hv, _⟩
        · omega
        · exact ⟨ga, cap, hv⟩
      have HC4 := Lib.hid C4
      have HCR4 := Lib.hid CR4
      have HO3 := Lib.hid hown3
      have hb7 := (hb6.alloc hb6.size (.cells #[.int .i64 (dg : Int)] 3)).grown hg3 (by have := hb6.size; simp; omega) (fun k hk => by have hbs := HBS.out; have := (hown2.lt k hk).1; omega)
      have hws7 : W0.heap.size ≤ w3.heap.size := Nat.le_trans hws5 (by have := hg3.size; simp at this; omega)
      clear C3 CR3 C4 CR4 hown3 z0 z1 g0 g1
      go_wp2_with fail
      go_roundg tt.length
      case measure => rw [HTL.out]; exact hml
      case rel =>
        refine ⟨f, tt, acc ++ [dg], _, rfl, rfl, by rw [HTL.out]; omega, HTT.out, by rw [HTL.out]; omega, by rw [HTL.out, List.length_append]; simp; omega, HN, HC4.out.set 1 _, HCR4.out.far (by show w.heap.size ≠ w1.heap.size; omega) _, ?_, hb7.setCell (by show w.heap.size ≤ w1.heap.size; omega) _, ?_⟩
        · rw [List.length_append, show is ((acc ++ [dg]).map Int.ofNat) = is (acc.map Int.ofNat) ++ [.int .i64 (dg : Int)] by simp [is]]
          exact own_setB (g := w1.heap.size) HO3.out (by have hbs := HBS.out; omega) _
        · rw [setCell_size]; exact hws7

set_option maxRecDepth 100000 in
set_option maxHeartbeats 2000000 in
theorem to03_pos (s d : List UInt8) (w : World) (hp : Lib.hasPrefix s [45] = false) (hd0 : s = d) (hdg : ∀ c ∈ d, isDig c) (hdl : d.length ≤ 50000) :
    Calls Tryz.prog 133 #[.string ⟨s.toArray⟩] w fun e w' => (∃ A c, e = .returned (.agg #[.bool (false && decide (0 < keepLen ((chunk d.length d).map Int.ofNat) ((chunk d.length d).map Int.ofNat).length)), .slice A (keepLen ((chunk d.length d).map Int.ofNat) ((chunk d.length d).map Int.ofNat).length) c]) ∧ TRow w' (.slice A (keepLen ((chunk d.length d).map Int.ofNat) ((chunk d.length d).map Int.ofNat).length) c) (((chunk d.length d).map Int.ofNat).take (keepLen ((chunk d.length d).map Int.ofNat) ((chunk d.length d).map Int.ofNat).length))) ∧ Below w.heap.size w w' := by
  obtain ⟨i0, hi0, hz0, hz1, hz2⟩ := info_parts Tryz.info_int
  have HX : Hid (∀ W, Calls Tryz.prog 174 #[.string ⟨s.toArray⟩, .string ⟨#[45]⟩] W fun e w' => e = .returned (.bool false) ∧ Below W.heap.size W w') := Lib.hid (fun W => hp ▸ hasPrefix_any s [45] W)
  have hd1 := hd0.symm; subst hd1
  skip
  clear hp
  obtain ⟨XS, HXS⟩ : ∃ XS, Box ((chunk d.length d).map Int.ofNat = XS) := ⟨_, ⟨rfl⟩⟩
  rw [HXS.out]
  go_enter Tryz.func133, Tryz.ntmps133
  go_wp2_with fail
  refine (HX.out _).mono ?_
  rintro e w1 ⟨rfl, hb1⟩
  rw [World.size_alloc] at hb1
  have CR0 := cells_of_below hb1
  have hbw1 := below_result hb1
  have hsz1 := size_below hb1
  clear hb1
  obtain ⟨W0, hW0⟩ : ∃ W0, W0 = w1.alloc (.cells #[.bool false, .slice Option.none 0 0] 110) := ⟨_, rfl⟩
  have C1 : Hid (Cells W0 w1.heap.size 110 [.bool false, .slice Option.none 0 0]) := Lib.hid (by rw [hW0]; exact Cells.new w1 _ _)
  have CR : Hid (Cells W0 w.heap.size 110 [.bool false, .slice Option.none 0 0]) := Lib.hid (by rw [hW0]; exact CR0.alloc _)
  have hbw : Below w.heap.size w W0 := by rw [hW0]; exact hbw1.alloc hbw1.size _
  have HBS : Box (W0.heap.size = w1.heap.size + 1) := ⟨by rw [hW0, World.size_alloc]⟩
  go_wp2_with fail
  rw [← hW0]
  clear hW0 hbw1 CR0
  go_loopg [3] d.length (fun g tv wr => ∃ (f : Nat) (t : List UInt8) (acc : List Nat) (dv : Value), tv = .string ⟨t.toArray⟩ ∧ g = t.length ∧ t.length ≤ f ∧ (∀ c ∈ t, isDig c) ∧ t.length ≤ 50000 ∧ acc.length + t.length ≤ 50000 ∧ Box (acc ++ chunk f t = chunk d.length d) ∧ Cells wr w1.heap.size 110 [.bool false, dv] ∧ Cells wr w.heap.size 110 [.bool false, .slice Option.none 0 0] ∧ wr.ownsRow W0.heap.size 3 1 dv acc.length (is (acc.map Int.ofNat)) ∧ Below w.heap.size w wr ∧ W0.heap.size ≤ wr.heap.size)
  case atStart => exact ⟨d.length, d, [], _, rfl, rfl, Nat.le_refl _, hdg, hdl, by simpa using hdl, ⟨rfl⟩, C1.out, CR.out, World.ownsRow_nil _ _ _ _, hbw, Nat.le_refl _⟩
  case round =>
    clear C1 CR hbw
    obtain ⟨f, t, acc, dv, rfl, rfl, hf, htd, htl, hal, HCH, hc1, hcr, hown, hbw, hws⟩ := hrel
    have C1 := Lib.hid hc1
    have CR := Lib.hid hcr
    have HO := Lib.hid hown
    have HTD : Box (∀ c ∈ t, isDig c) := ⟨htd⟩
    have q0 := hc1.cell 0
    have q1 := hc1.cell 1
    have f0 := hc1.free 0
    have f1 := hc1.free 1
    simp only [List.getElem?_cons_succ, List.getElem?_cons_zero] at q0 q1
    clear hc1 hcr hown htd
    by_cases ht : t = []
    · subst ht
      have HD : Box (acc = chunk d.length d) := ⟨by have h := HCH.out; cases f with | zero => simpa [chunk] using h | succ f => simpa [chunk] using h⟩
      have hti := TRow.of_own (x := acc.map Int.ofNat) (by simpa using HO.out)
      rw [HD.out, HXS.out] at hti
      have hti' := hti
      obtain ⟨AX, cx, e, _⟩ := hti'
      subst e
      have HTR := Lib.hid (trim03_at false AX cx XS wr hti.isRow)
      have HTI := Lib.hid hti
      clear HD hti HCH
      go_wp2_with fail
      refine HTR.out.mono ?_
      rintro e w5 ⟨rfl, hb5⟩
      have HT5 := Lib.hid (HTI.out.below hb5)
      have CR2 := CR.out.below hb5 CR.out.lt
      have HCR2 := Lib.hid CR2
      have r0 := CR2.cell 0
      have r1 := CR2.cell 1
      have s0 := CR2.free 0
      have s1 := CR2.free 1
      simp only [List.getElem?_cons_succ, List.getElem?_cons_zero] at r0 r1
      have hbn := hbw.trans (hb5.mono hbw.size)
      clear hb5 CR2
      have HKL : Box (keepLen XS XS.length ≤ XS.length) := ⟨keepLen_le _ _⟩
      have hbe : Below w.heap.size w ((w5.setCell ⟨w.heap.size, 0, Option.none⟩ (.bool (false && decide (0 < keepLen XS XS.length)))).setCell ⟨w.heap.size, 1, Option.none⟩ (.slice AX (keepLen XS XS.length) cx)) := (hbn.setCell (Nat.le_refl _) _).setCell (Nat.le_refl _) _
      go_wp2_with fail
      refine bodyPost_ret (v := .agg #[.bool (false && decide (0 < keepLen XS XS.length)), .slice AX (keepLen XS XS.length) cx]) (by simp [results, Tryz.results133, go_sem, r0, r1]) rfl ⟨⟨AX, cx, rfl, ?_⟩, ?_⟩
      · exact (((HT5.out.set HCR2.out (by decide) _).set (HCR2.out.set 0 _) (by decide) _)).cut HKL.out
      · exact (hbn.setCell (Nat.le_refl _) _).setCell (Nat.le_refl _) _
    · have ht0 : 0 < t.length := List.length_pos_iff.2 ht
      obtain ⟨f, rfl⟩ : ∃ f', f = f' + 1 := ⟨f - 1, by omega⟩
      have HN : Box (acc ++ [dval 0 (t.drop (t.length - 9))] ++ chunk f (t.take (t.length - 9)) = chunk d.length d) := ⟨by
        rw [← HCH.out, chunk, if_neg (by simpa using ht)]
        simp⟩
      have HAT := Lib.hid (fun W => atoi_dig (t.drop (t.length - 9)) W (fun h => by have := congrArg List.length h; rw [List.length_drop] at this; simp at this; omega) (fun c hc => HTD.out c (List.mem_of_mem_drop hc)) (by rw [List.length_drop]; omega))
      have hx1 : (⟨t.toArray⟩ : ByteArray).extract (t.length - 9) t.length = ⟨(t.drop (t.length - 9)).toArray⟩ := ba_ext (by rw [ext_eq, mk_toList, mk_toList, List.take_of_length_le (Nat.le_refl _)])
      have hx2 : (⟨t.toArray⟩ : ByteArray).extract 0 (t.length - 9) = ⟨(t.take (t.length - 9)).toArray⟩ := ba_ext (by rw [ext_eq]; simp)
      have HTT : Box (∀ c ∈ t.take (t.length - 9), isDig c) := ⟨fun c hc => HTD.out c (List.mem_of_mem_take hc)⟩
      have HTL : Box ((t.take (t.length - 9)).length = t.length - 9) := ⟨by rw [List.length_take]; omega⟩
      generalize dval 0 (t.drop (t.length - 9)) = dg at *
      generalize t.drop (t.length - 9) = td at *
      generalize t.take (t.length - 9) = tt at *
      clear ht HCH
      obtain ⟨m, hm⟩ : ∃ m, t.length - 9 = m := ⟨_, rfl⟩
      rw [hm] at hx1 hx2 HTL
      have hmx : max (0 : Int) ((t.length : Int) - 9) = (m : Int) := by omega
      have hml : m < t.length := by omega
      have hml2 : (m : Int) ≤ (t.length : Int) := by omega
      clear hm
      go_wp2_with fail
      refine (HAT.out _).mono ?_
      rintro e w5 ⟨rfl, hb5⟩
      have hown2 := own_below HO.out hb5
      have C3 := C1.out.below hb5 C1.out.lt
      have CR3 := CR.out.below hb5 CR.out.lt
      have hb6 := hbw.trans (hb5.mono hbw.size)
      have hws5 := Nat.le_trans hws hb5.size
      have z0 := C3.cell 0
      have z1 := C3.cell 1
      have g0 := C3.free 0
      have g1 := C3.free 1
      simp only [List.getElem?_cons_succ, List.getElem?_cons_zero] at z0 z1
      clear hb5 q0 q1 f0 f1
      go_wp2_with (at_builtin; refine wpList_append_own _ rfl _ _ _ rfl W0.heap.size 3 i0 (.int .i64 0) 1 8 Tryz.underlying22 hi0 hz0 hz1 hz2 rfl (by decide) _ _ _ rfl (hown2.alloc _) ⟨w5.heap.size, 0, Option.none⟩ 1 1 [_] rfl rfl (cell_one_new _ _ _) (by intro u hu; simp at hu; subst hu; rfl) (by unfold maxLen; omega) (by omega) (by simp; omega) ?_)
      intro v3 w3 hown3 hg3 _
      have C4 := (C3.alloc (.cells #[.int .i64 (dg : Int)] 3)).grown hg3 (fun e => by have hbs := HBS.out; have := (hown2.lt _ e.symm).1; omega)
      have CR4 := (CR3.alloc (.cells #[.int .i64 (dg : Int)] 3)).grown hg3 (fun e => by have hbs := HBS.out; have := (hown2.lt _ e.symm).1; omega)
      have y0 := C4.cell 0
      have y1 := C4.cell 1
      have x0 := C4.free 0
      have x1 := C4.free 1
      simp only [List.getElem?_cons_succ, List.getElem?_cons_zero] at y0 y1
      obtain ⟨ga, cap, rfl⟩ : ∃ ga cap, v3 = .slice (some ⟨ga, 0, Option.none⟩) (acc.length + 1) cap := by
        rcases hown3.2 with ⟨_, h0⟩ | ⟨ga, cap, cur, hv, _⟩
        · omega
        · exact ⟨ga, cap, hv⟩
      have HC4 := Lib.hid C4
      have HCR4 := Lib.hid CR4
      have HO3 := Lib.hid hown3
      have hb7 := (hb6.alloc hb6.size (.cells #[.int .i64 (dg : Int)] 3)).grown hg3 (by have := hb6.size; simp; omega) (fun k hk => by have hbs := HBS.out; have := (hown2.lt k hk).1; omega)
      have hws7 : W0.heap.size ≤ w3.heap.size := Nat.le_trans hws5 (by have := hg3.size; simp at this; omega)
      clear C3 CR3 C4 CR4 hown3 z0 z1 g0 g1
      go_wp2_with fail
      go_roundg tt.length
      case measure => rw [HTL.out]; exact hml
      case rel =>
        refine ⟨f, tt, acc ++ [dg], _, rfl, rfl, by rw [HTL.out]; omega, HTT.out, by rw [HTL.out]; omega, by rw [HTL.out, List.length_append]; simp; omega, HN, HC4.out.set 1 _, HCR4.out.far (by show w.heap.size ≠ w1.heap.size; omega) _, ?_, hb7.setCell (by show w.heap.size ≤ w1.heap.size; omega) _, ?_⟩
        · rw [List.length_append, show is ((acc ++ [dg]).map Int.ofNat) = is (acc.map Int.ofNat) ++ [.int .i64 (dg : Int)] by simp [is]]
          exact own_setB (g := w1.heap.size) HO3.out (by have hbs := HBS.out; omega) _
        · rw [setCell_size]; exact hws7

end Go.Proofs.YteenfcmnmenigaaGreatDoor

namespace Go.Proofs.YteenfcmnmenigaaGreatDoor
open Go.RowKit Go.Lib

/-- The digits to the base 10^9, as ints. -/
def pcsI (n : Nat) : List Int := (pcs n).map Int.ofNat

theorem pcs_top : ∀ (n : Nat), 0 < n → ∃ k, (pcs n).length = k + 1 ∧ (pcs n)[k]?.getD 0 ≠ 0 := by
  intro n
  induction n using Nat.strongRecOn with
  | _ n ih =>
    intro h
    rw [pcs_pos h]
    rcases Nat.eq_zero_or_pos (n / 1000000000) with h0 | h0
    · rw [h0, pcs_zero]
      exact ⟨0, rfl, by simp; omega⟩
    · obtain ⟨k, h1, h2⟩ := ih (n / 1000000000) (by omega) h0
      exact ⟨k + 1, by simp [h1], by simpa using h2⟩
theorem keep_pcs (n : Nat) (h : 0 < n) : keepLen (pcsI n) (pcsI n).length = (pcsI n).length := by
  obtain ⟨k, h1, h2⟩ := pcs_top n h
  have hl : (pcsI n).length = k + 1 := by unfold pcsI; simpa using h1
  rw [hl, keepLen, if_neg]
  intro h3
  apply h2
  unfold pcsI at h3
  rw [List.getElem?_map] at h3
  have hk : k < (pcs n).length := by omega
  rw [List.getElem?_eq_getElem hk] at h3 ⊢
  simpa using h3

/-- schismaref03.To of the text of an integer. -/
theorem to03_any (z : Int) (w : World) (hl : (itoa z).length ≤ 50000) :
    Calls Tryz.prog 133 #[.string ⟨(itoa z).toArray⟩] w fun e w' => (∃ A c, e = .returned (.agg #[.bool (decide (z < 0)), .slice A (pcsI z.natAbs).length c]) ∧ TRow w' (.slice A (pcsI z.natAbs).length c) (pcsI z.natAbs)) ∧ Below w.heap.size w w' := by
  rcases itoa_cases z with ⟨hz, e⟩ | ⟨hz, e⟩
  · have hn : 0 < z.natAbs := by omega
    have hdl : (decDigits z.natAbs).length ≤ 50000 := by rw [e, List.length_cons] at hl; omega
    have h := to03_neg (itoa z) (decDigits z.natAbs) w (by rw [e]; simp [Lib.hasPrefix, List.isPrefixOf]) (by rw [e]; rfl) (dec_dig _) hdl (by omega)
    rw [chunk_pcs _ _ hn (Nat.le_refl _), show (pcs z.natAbs).map Int.ofNat = pcsI z.natAbs from rfl, keep_pcs _ hn, List.take_of_length_le (Nat.le_refl _)] at h
    have hb : (true && decide (0 < (pcsI z.natAbs).length)) = decide (z < 0) := by
      obtain ⟨k, h1, _⟩ := pcs_top _ hn
      have : 0 < (pcsI z.natAbs).length := by unfold pcsI; rw [List.length_map]; omega
      rw [decide_eq_true this, decide_eq_true hz]; rfl
    rw [hb] at h
    exact h
  · have hdl : (decDigits z.natAbs).length ≤ 50000 := by rw [e] at hl; exact hl
    have hnp : Lib.hasPrefix (itoa z) [45] = false := by have := rat_no_dash (N := z.natAbs) (t := []); rw [List.append_nil] at this; rw [e]; exact this
    have h := to03_pos (itoa z) (decDigits z.natAbs) w hnp e (dec_dig _) hdl
    rw [decide_eq_false (by omega : ¬ z < 0)]
    rcases Nat.eq_zero_or_pos z.natAbs with h0 | h0
    · rw [h0, dec_small (by omega), show UInt8.ofNat (48 + 0) = 48 from rfl] at h
      have hc : (chunk ([48] : List UInt8).length [48]).map Int.ofNat = [0] := by
        show [Int.ofNat (dval 0 [48])] = [0]
        rw [dval_cons, dval_nil, dgv_eq]; rfl
      rw [hc] at h
      rw [h0, show pcsI 0 = [] by unfold pcsI; rw [pcs_zero]; rfl]
      exact h
    · rw [chunk_pcs _ _ h0 (Nat.le_refl _), show (pcs z.natAbs).map Int.ofNat = pcsI z.natAbs from rfl, keep_pcs _ h0, List.take_of_length_le (Nat.le_refl _), Bool.false_and] at h
      exact h

set_option maxRecDepth 100000 in
set_option maxHeartbeats 1000000 in
/-- schismaref03.Of of an int. -/
theorem of03_any (z : Int) (w : World) (hS : Std w) (h1 : -9223372036854775808 ≤ z) (h2 : z ≤ 9223372036854775807) (hl : (itoa z).length ≤ 50000) :
    Calls Tryz.prog 88 #[.int .i64 z] w fun e w' => (∃ A c, e = .returned (.agg #[.bool (decide (z < 0)), .slice A (pcsI z.natAbs).length c]) ∧ TRow w' (.slice A (pcsI z.natAbs).length c) (pcsI z.natAbs)) ∧ Below w.heap.size w w' := by
  have HI := Lib.hid (fun W hW => int03_any z W hW h1 h2)
  have HT := Lib.hid (fun W => to03_any z W hl)
  have HS := Lib.hid hS
  clear hl hS
  generalize decide (z < 0) = b at *
  generalize pcsI z.natAbs = x at *
  generalize itoa z = l at *
  go_enter Tryz.func88, Tryz.ntmps88
  go_wp2_with fail
  refine (HI.out _ (HS.out.alloc _)).mono ?_
  rintro e w1 ⟨rfl, hb1⟩
  rw [World.size_alloc] at hb1
  go_wp2_with fail
  refine (HT.out _).mono ?_
  rintro e w2 ⟨⟨A, c, rfl, hr⟩, hb2⟩
  replace hb1 := hb1.trans (hb2.mono (by have := hb1.size; simp at this; omega))
  have HR := Lib.hid hr
  obtain ⟨q0, q1, q2, q3, q4⟩ := two_below hb1
  have hbw := below_result hb1
  have HC := Lib.hid (cells_of_below hb1)
  clear hb2 hr
  go_wp2_with fail
  refine bodyPost_ret (v := .agg #[.bool b, .slice A x.length c]) (by simp [results, Tryz.results88, go_sem, q0, q1]) rfl ⟨⟨A, c, rfl, ?_⟩, ?_⟩
  · exact (HR.out.set HC.out (by decide) _).set (HC.out.set 0 _) (by decide) _
  · exact (hbw.setCell (Nat.le_refl _) _).setCell (Nat.le_refl _) _

end Go.Proofs.YteenfcmnmenigaaGreatDoor

namespace Go.Proofs.YteenfcmnmenigaaGreatDoor
open Go.RowKit Go.Lib

set_option maxRecDepth 100000 in
set_option maxHeartbeats 2000000 in
theorem little_pos (n d : Nat) (v : Value) (w : World) (hS : Std w) (hn0 : 0 < n) (hn : n < 1000000000) (hd0 : 0 < d) (hd : d < 1000000000) (hv : IsRow w w.heap.size v [(n : Int)]) :
    Calls Tryz.prog 128 #[.agg #[.bool false, v], .int .i64 d] w fun e w' => e = .returned (.agg #[.string ⟨(itoa ((n / Nat.gcd n d : Nat) : Int)).toArray⟩, .string ⟨(itoa ((d / Nat.gcd n d : Nat) : Int)).toArray⟩]) ∧ Below w.heap.size w w' := by
  have hq1 := Nat.div_le_self n (Nat.gcd n d)
  have hq2 := Nat.div_le_self d (Nat.gcd n d)
  obtain ⟨G, HGG⟩ : ∃ G, Box (Nat.gcd n d = G) := ⟨_, ⟨rfl⟩⟩
  rw [HGG.out] at hq1 hq2 ⊢
  obtain ⟨Q1, HQ1⟩ : ∃ Q, Box (n / G = Q) := ⟨_, ⟨rfl⟩⟩
  obtain ⟨Q2, HQ2⟩ : ∃ Q, Box (d / G = Q) := ⟨_, ⟨rfl⟩⟩
  rw [HQ1.out] at hq1 ⊢
  rw [HQ2.out] at hq2 ⊢
  have HI1 := Lib.hid (fun W hW => int03_any (Q1 : Int) W hW (by omega) (by omega))
  have HI2 := Lib.hid (fun W hW => int03_any (Q2 : Int) W hW (by omega) (by omega))
  generalize itoa (Q1 : Int) = la at *
  generalize itoa (Q2 : Int) = lb at *
  have HS := Lib.hid hS
  obtain ⟨A, c, rfl, _, _, hr⟩ := hv
  obtain ⟨ad, rfl, had, hca⟩ := hr.i_at (show 0 < 1 by omega)
  have hz : ad.add 0 = ad := by unfold Addr.add; simp
  rw [hz] at hca
  obtain ⟨bk, o, rfl⟩ := addr_plain hca
  simp only [List.getElem?_cons_zero, Option.getD_some] at hca
  clear hr hS hz
  go_enter Tryz.func128, Tryz.ntmps128
  go_wp2_with fail
  go_loopw [6, 7] (fun xv yv wr => ∃ x y : Nat, xv = .int .i64 x ∧ yv = .int .i64 y ∧ 0 < x ∧ x < 1000000000 ∧ y < 1000000000 ∧ Box (Nat.gcd x y = G) ∧ Below (w.heap.size + 2) ((w.alloc (.cells #[.bool false, .slice (some ⟨bk, o, Option.none⟩) 1 c] 110)).alloc (.cells #[.string ⟨#[]⟩, .string ⟨#[]⟩] 72)) wr) (fun _ yv _ => (intOf yv).toNat)
  case atStart => exact ⟨n, d, by simp, rfl, hn0, hn, hd, HGG, Below.refl _ _⟩
  case round =>
    obtain ⟨x, y, rfl, rfl, hx0, hx, hy, HG, hbw⟩ := hrel
    by_cases hy0 : 0 < y
    · have hr : (x : Int) % (y : Int) = ((x % y : Nat) : Int) := by omega
      have hm := Nat.mod_lt x hy0
      have HN : Box (Nat.gcd y (x % y) = G) := ⟨by rw [← HG.out, Nat.gcd_comm x y, Nat.gcd_rec y x, Nat.gcd_comm]⟩
      have hy1 : ((y : Int) == 0) = false := by rw [beq_eq_false_iff_ne]; omega
      have hy2 : ¬ ((y : Int) = 0) := by omega
      go_wp2_with fail
      go_quiet (fail)
      go_wp2_with fail
      go_roundw
      case rel => exact ⟨y, x % y, rfl, by go_num, hy0, hy, by omega, HN, below_drewN hbw _⟩
      case measure => simp [intOf]; omega
    · obtain rfl : y = 0 := by omega
      obtain rfl : x = G := by have h := HG.out; rw [Nat.gcd_zero_right] at h; exact h
      have hd1 : (n : Int) / (x : Int) = (Q1 : Int) := by rw [← HQ1.out]; rfl
      have hd2 : (d : Int) / (x : Int) = (Q2 : Int) := by rw [← HQ2.out]; rfl
      have hx1 : ((x : Int) == 0) = false := by rw [beq_eq_false_iff_ne]; omega
      have hx2 : ¬ ((x : Int) = 0) := by omega
      have hx3 : (n : Int).tdiv (x : Int) = (Q1 : Int) := by rw [← HQ1.out]; rfl
      have hx4 : (d : Int).tdiv (x : Int) = (Q2 : Int) := by rw [← HQ2.out]; rfl
      have CB0 : Cells wr w.heap.size 110 [.bool false, .slice (some ⟨bk, o, Option.none⟩) 1 c] := ((Cells.new w 110 #[.bool false, .slice (some ⟨bk, o, Option.none⟩) 1 c]).alloc _).below hbw (by omega)
      have CR0 : Cells wr (w.heap.size + 1) 72 [.string ⟨#[]⟩, .string ⟨#[]⟩] := by
        have h := Cells.new (w.alloc (.cells #[.bool false, .slice (some ⟨bk, o, Option.none⟩) 1 c] 110)) 72 #[.string ⟨#[]⟩, .string ⟨#[]⟩]
        rw [World.size_alloc] at h
        exact h.below hbw (by omega)
      have hbz : Below w.heap.size w wr := (((Below.refl _ _).alloc (Nat.le_refl _) _).alloc (by simp) _).trans (hbw.mono (by omega))
      have hszw : w.heap.size + 2 ≤ wr.heap.size := by have := hbw.size; simp at this; omega
      have kb : ∀ q, (wr.drewN q).cell? ⟨w.heap.size, 0, Option.none⟩ = some (.bool false) := fun q => (CB0.drewN q).cell 0
      have HCR := Lib.hid CR0
      clear CB0 CR0
      go_wp2_with fail
      go_quiet (fail)
      go_wp2_with fail
      refine (HI1.out _ (HS.out.below (below_drewN hbz _) (Nat.le_refl _))).mono ?_
      rintro e w5 ⟨rfl, hb5⟩
      replace HCR := Lib.hid ((HCR.out.drewN _).below hb5 (by show w.heap.size + 1 < wr.heap.size; omega))
      replace hbz := (below_drewN hbz _).trans (hb5.mono (below_drewN hbz _).size)
      clear hb5
      go_wp2_with fail
      refine (HI2.out _ (HS.out.below hbz (Nat.le_refl _))).mono ?_
      rintro e w6 ⟨rfl, hb6⟩
      replace HCR := Lib.hid (HCR.out.below hb6 HCR.out.lt)
      replace hbz := hbz.trans (hb6.mono hbz.size)
      have r0 := HCR.out.cell 0
      have r1 := HCR.out.cell 1
      have s0 := HCR.out.free 0
      have s1 := HCR.out.free 1
      simp only [List.getElem?_cons_succ, List.getElem?_cons_zero] at r0 r1
      clear hb6
      go_wp2_with fail
      refine bodyPost_ret (v := .agg #[.string ⟨la.toArray⟩, .string ⟨lb.toArray⟩]) (by simp [results, Tryz.results128, go_sem, r0, r1]) rfl ⟨rfl, ?_⟩
      exact (hbz.setCell (Nat.le_succ _) _).setCell (Nat.le_succ _) _

end Go.Proofs.YteenfcmnmenigaaGreatDoor

namespace Go.Proofs.YteenfcmnmenigaaGreatDoor
open Go.RowKit Go.Lib

theorem below_to_drew2 {B : Nat} {w0 w1 : World} (h : Below B w0 w1) : Below B w0 w1.drew := ⟨h.os, h.tape, h.output, h.size, h.block⟩

set_option maxRecDepth 100000 in
set_option maxHeartbeats 2000000 in
theorem make03_pos (n d : Nat) (va vb : Value) (w : World) (hS : Std w) (hn0 : 0 < n) (hn : n < 1000000000) (hd0 : 0 < d) (hd : d < 1000000000) (hva : IsRow w w.heap.size va [(n : Int)]) (hvb : IsRow w w.heap.size vb [(d : Int)]) :
    Calls Tryz.prog 87 #[.agg #[.bool false, va], .agg #[.bool false, vb]] w fun e w' => e = .returned (.agg #[.string ⟨(itoa ((n / Nat.gcd n d : Nat) : Int)).toArray⟩, .string ⟨(itoa ((d / Nat.gcd n d : Nat) : Int)).toArray⟩]) ∧ Below w.heap.size w w' := by
  have HL := Lib.hid (fun W hW h => little_pos n d va W hW hn0 hn hd0 hd h)
  have HSG := Lib.hid (fun W h => sign03_any false vb [(d : Int)] W h)
  rw [show sign03 false [(d : Int)] = 1 from rfl] at HSG
  have HS := Lib.hid hS
  have HVA := Lib.hid hva
  have HVB := Lib.hid hvb
  obtain ⟨A, ca, e1, _⟩ := hva
  change va = .slice A 1 ca at e1
  subst e1
  obtain ⟨B, cb, e2, _, _, hr⟩ := hvb
  change vb = .slice B 1 cb at e2
  subst e2
  obtain ⟨ad, rfl, had, hca⟩ := hr.i_at (show 0 < 1 by omega)
  have hz : ad.add 0 = ad := by unfold Addr.add; simp
  rw [hz] at hca
  obtain ⟨bk, o, rfl⟩ := addr_plain hca
  simp only [List.getElem?_cons_zero, Option.getD_some] at hca
  have HCA := Lib.hid hca
  clear hr hS hz hca
  generalize itoa ((n / Nat.gcd n d : Nat) : Int) = la at *
  generalize itoa ((d / Nat.gcd n d : Nat) : Int) = lb at *
  go_enter Tryz.func87, Tryz.ntmps87
  go_wp2_with fail
  obtain ⟨W3, hW3⟩ : ∃ W3, W3 = ((w.alloc (.cells #[.bool false, .slice A 1 ca] 110)).alloc (.cells #[.bool false, .slice (some ⟨bk, o, Option.none⟩) 1 cb] 110)).alloc (.cells #[.string ⟨#[]⟩, .string ⟨#[]⟩] 72) := ⟨_, rfl⟩
  have C1 : Cells W3 w.heap.size 110 [.bool false, .slice A 1 ca] := by rw [hW3]; exact ((Cells.new w _ _).alloc _).alloc _
  have C2 : Cells W3 (w.heap.size + 1) 110 [.bool false, .slice (some ⟨bk, o, Option.none⟩) 1 cb] := by
    have h := Cells.new (w.alloc (.cells #[.bool false, .slice A 1 ca] 110)) 110 #[.bool false, .slice (some ⟨bk, o, Option.none⟩) 1 cb]
    rw [World.size_alloc] at h
    rw [hW3]; exact h.alloc _
  have CR : Cells W3 (w.heap.size + 1 + 1) 72 [.string ⟨#[]⟩, .string ⟨#[]⟩] := by
    have h := Cells.new ((w.alloc (.cells #[.bool false, .slice A 1 ca] 110)).alloc (.cells #[.bool false, .slice (some ⟨bk, o, Option.none⟩) 1 cb] 110)) 72 #[.string ⟨#[]⟩, .string ⟨#[]⟩]
    rw [World.size_alloc, World.size_alloc] at h
    rw [hW3]; exact h
  have hbw : Below w.heap.size w W3 := by rw [hW3]; exact (((Below.refl _ _).alloc (Nat.le_refl _) _).alloc (by simp) _).alloc (by simp; omega) _
  rw [← hW3]
  clear hW3
  refine (HSG.out _ (HVB.out.lift hbw)).mono ?_
  rintro e w5 ⟨rfl, hb5⟩
  replace C1 := C1.below hb5 C1.lt
  replace C2 := C2.below hb5 C2.lt
  replace CR := CR.below hb5 CR.lt
  replace hbw := hbw.trans (hb5.mono hbw.size)
  clear hb5
  have p0 := C1.cell 0
  have p1 := C1.cell 1
  have q0 := C2.cell 0
  have q1 := C2.cell 1
  have hz0 : w5.cell? ⟨bk, o, Option.none⟩ = some (.int .i64 (d : Int)) := keep_cell HCA.out hbw
  simp only [List.getElem?_cons_succ, List.getElem?_cons_zero] at p0 p1 q0 q1
  have HCR := Lib.hid CR
  have HBW := Lib.hid hbw
  clear C1 C2 CR hbw
  go_wp2_with fail
  have hne1 : bk ≠ w.heap.size + 1 + 1 := by omega
  have hne2 : w.heap.size + 1 + 1 ≠ bk := by omega
  have hne3 : w.heap.size ≠ w.heap.size + 1 + 1 := by omega
  have hne4 : w.heap.size + 1 + 1 ≠ w.heap.size := by omega
  have hne5 : w.heap.size + 1 ≠ w.heap.size + 1 + 1 := by omega
  have hne6 : w.heap.size + 1 + 1 ≠ w.heap.size + 1 := by omega
  go_region_held3 (fun w' => w'.cell? ⟨w.heap.size, 0, Option.none⟩ = some (.bool false) ∧ w'.cell? ⟨w.heap.size, 1, Option.none⟩ = some (.slice A 1 ca) ∧ w'.cell? ⟨w.heap.size + 1, 1, Option.none⟩ = some (.slice (some ⟨bk, o, Option.none⟩) 1 cb) ∧ w'.cell? ⟨bk, o, Option.none⟩ = some (.int .i64 (d : Int)))
    (first | go_keep | exact ⟨keep_drew p0 hbk, keep_drew p1 hbk, keep_drew q1 hbk, keep_drew hz0 hbk⟩ | (dsimp only; refine ⟨by rw [World.cell?_setCell_far _ _ _ _ (by show w.heap.size + 1 + 1 ≠ w.heap.size; omega), World.cell?_setCell_far _ _ _ _ (by show w.heap.size + 1 + 1 ≠ w.heap.size; omega)]; exact u0, by rw [World.cell?_setCell_far _ _ _ _ (by show w.heap.size + 1 + 1 ≠ w.heap.size; omega), World.cell?_setCell_far _ _ _ _ (by show w.heap.size + 1 + 1 ≠ w.heap.size; omega)]; exact u1, by rw [World.cell?_setCell_far _ _ _ _ (by show w.heap.size + 1 + 1 ≠ w.heap.size + 1; omega), World.cell?_setCell_far _ _ _ _ (by show w.heap.size + 1 + 1 ≠ w.heap.size + 1; omega)]; exact u2, by rw [World.cell?_setCell_far _ _ _ _ (by show w.heap.size + 1 + 1 ≠ bk; omega), World.cell?_setCell_far _ _ _ _ (by show w.heap.size + 1 + 1 ≠ bk; omega)]; exact u3⟩))
    ((first | (go_at_call 128; (with_reducible refine (HL.out _ ((HS.out.below HBW.out (Nat.le_refl _)).drew) (HVA.out.lift (below_to_drew2 HBW.out))).mono ?_); rintro e w7 ⟨rfl, hbk⟩; have CR7 := HCR.out.drew.below hbk HCR.out.drew.lt; have r0 := CR7.cell 0; have r1 := CR7.cell 1; have s0 := CR7.free 0; have s1 := CR7.free 1; simp only [List.getElem?_cons_succ, List.getElem?_cons_zero] at r0 r1; have u0 := keep_drew p0 hbk; have u1 := keep_drew p1 hbk; have u2 := keep_drew q1 hbk; have u3 := keep_drew hz0 hbk)))
  have hbn := (below_to_drew2 HBW.out).trans (hbk.mono (below_to_drew2 HBW.out).size)
  go_wp2_with fail
  refine bodyPost_ret (v := .agg #[.string ⟨la.toArray⟩, .string ⟨lb.toArray⟩]) (by simp [results, Tryz.results87, go_sem, r0, r1]) rfl ⟨rfl, ?_⟩
  exact (hbn.setCell (by show w.heap.size ≤ w.heap.size + 1 + 1; omega) _).setCell (by show w.heap.size ≤ w.heap.size + 1 + 1; omega) _

end Go.Proofs.YteenfcmnmenigaaGreatDoor

namespace Go.Proofs.YteenfcmnmenigaaGreatDoor
open Go.RowKit Go.Lib

theorem pcsI_one {n : Nat} (h0 : 0 < n) (h : n < 1000000000) : pcsI n = [(n : Int)] := by
  unfold pcsI
  rw [pcs_pos h0, Nat.mod_eq_of_lt h, Nat.div_eq_of_lt h, pcs_zero]
  rfl

set_option maxRecDepth 100000 in
set_option maxHeartbeats 1000000 in
theorem frac03_pos (n d : Nat) (w : World) (hS : Std w) (hn0 : 0 < n) (hn : n < 1000000000) (hd0 : 0 < d) (hd : d < 1000000000) (hl1 : (itoa (n : Int)).length ≤ 50000) (hl2 : (itoa (d : Int)).length ≤ 50000) :
    Calls Tryz.prog 58 #[.int .i64 n, .int .i64 d] w fun e w' => e = .returned (.agg #[.string ⟨(itoa ((n / Nat.gcd n d : Nat) : Int)).toArray⟩, .string ⟨(itoa ((d / Nat.gcd n d : Nat) : Int)).toArray⟩]) ∧ Below w.heap.size w w' := by
  have H1 := Lib.hid (fun W hW => of03_any (n : Int) W hW (by omega) (by omega) hl1)
  have H2 := Lib.hid (fun W hW => of03_any (d : Int) W hW (by omega) (by omega) hl2)
  rw [Int.natAbs_natCast, pcsI_one hn0 hn, decide_eq_false (by omega)] at H1
  rw [Int.natAbs_natCast, pcsI_one hd0 hd, decide_eq_false (by omega)] at H2
  have HM := Lib.hid (fun va vb W hW h1 h2 => make03_pos n d va vb W hW hn0 hn hd0 hd h1 h2)
  have HS := Lib.hid hS
  clear hl1 hl2 hS
  generalize itoa ((n / Nat.gcd n d : Nat) : Int) = la at *
  generalize itoa ((d / Nat.gcd n d : Nat) : Int) = lb at *
  go_enter Tryz.func58, Tryz.ntmps58
  go_wp2_with fail
  refine (H1.out _ (HS.out.alloc _)).mono ?_
  rintro e w1 ⟨⟨A, ca, rfl, ha⟩, hb1⟩
  have HA := Lib.hid ha
  rw [World.size_alloc] at hb1
  clear ha
  go_wp2_with fail
  refine (H2.out _ (HS.out.below (below_result hb1) (Nat.le_refl _))).mono ?_
  rintro e w2 ⟨⟨B, cb, rfl, hb⟩, hb2⟩
  replace HA := Lib.hid (HA.out.below hb2)
  have HB := Lib.hid hb
  replace hb1 := hb1.trans (hb2.mono (by have := hb1.size; simp at this; omega))
  clear hb hb2
  go_wp2_with fail
  refine (HM.out _ _ _ (HS.out.below (below_result hb1) (Nat.le_refl _)) HA.out.isRow HB.out.isRow).mono ?_
  rintro e w3 ⟨rfl, hb3⟩
  replace hb1 := hb1.trans (hb3.mono (by have := hb1.size; simp at this; omega))
  obtain ⟨q0, q1, q2, q3, q4⟩ := two_below hb1
  have hbw2 := below_result hb1
  clear hb3
  go_wp2_with fail
  refine bodyPost_ret (v := .agg #[.string ⟨la.toArray⟩, .string ⟨lb.toArray⟩]) (by simp [results, Tryz.results58, go_sem, q0, q1]) rfl ⟨rfl, ?_⟩
  exact (hbw2.setCell (Nat.le_refl _) _).setCell (Nat.le_refl _) _

end Go.Proofs.YteenfcmnmenigaaGreatDoor
