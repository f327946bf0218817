/- whole.Small, size.fast. The iterator over the terms of a size, terms.near. terms.near. -/
import Derived.Test.YteenfcmnmenigaaGreatDoorShelf3
import Derived.Test.YteenfcmnmenigaaGreatDoorGTA
import Derived.Test.YteenfcmnmenigaaGreatDoorGTB
import Derived.Outline
import Derived.RangeFuncNested
import Derived.RangeFuncBound
import Derived.RangeFuncCalls
import Derived.RangeFuncLeaves
import Derived.RangeFuncBox
import Derived.Shelf.Abstract
import Derived.Shelf.RegionOpen
import Derived.WalkKit
import Derived.OwnWalkIn
import Derived.TacticsInMore
import Derived.LoopNIn
import Derived.LoopIn
namespace Go.Proofs.YteenfcmnmenigaaGreatDoor
open Go.RowKit Go.Lib

theorem parseInt_itoa (z : Int) (h0 : -9223372036854775808 ≤ z) (h1 : z ≤ 9223372036854775807) : Lib.parseIntB 64 (itoa z) = .ok z := by
  have hp : parseUintB 64 (decDigits z.natAbs) = .ok z.natAbs := parseUintB_dec (by omega)
  rcases itoa_cases z with ⟨hz, e⟩ | ⟨hz, e⟩
  · rw [e, parseIntB_minus, hp]
    simp only [signedC]
    rw [if_neg (by omega)]
    congr 1
    omega
  · rw [e]
    obtain ⟨c, r, hc, hm, _⟩ := dec_first z.natAbs
    have hd : isDig c := dec_dig z.natAbs c (by rw [hc]; simp)
    have h45 : c.toNat ≠ 45 := fun h => by rw [h] at hm; cases hm
    have h43 : c.toNat ≠ 43 := fun h => by have := hd; unfold isDig at this; omega
    rw [hc] at hp ⊢
    rw [parseIntB_plain 64 c r h43 h45, hp]
    simp only [signlessC]
    rw [if_neg (by omega)]
    congr 1
    omega

set_option maxHeartbeats 400000 in
theorem whSmall_any (z : Int) (w : World) (h0 : -9223372036854775808 ≤ z) (h1 : z ≤ 9223372036854775807) :
    Calls Tryz.prog 178 #[.string ⟨(itoa z).toArray⟩] w fun e w' => e = .returned (.tuple #[.int .i64 z, .bool true]) ∧ Below w.heap.size w w' := by
  have hl : (itoa z).length ≤ 20 := by
    have h := itoa_len z
    have : (decDigits z.natAbs).length ≤ 19 := by rw [dec_length]; exact nDigits_le (by omega) (by omega)
    omega
  have hp : Lib.parseIntB 64 (itoa z) = .ok z := parseInt_itoa z h0 h1
  have HF := Lib.hid (Tryz.strconv_ParseInt_10_at64_ok ⟨(itoa z).toArray⟩ (by simp [ByteArray.size]; omega) z (by simpa using hp) w)
  clear hl hp
  generalize itoa z = l at *
  go_enter Tryz.func178, Tryz.ntmps178
  go_wp2_with (go_at_call 211; refine HF.out.mono ?_; rintro e w' ⟨rfl, hw⟩; have hb := bytes_below' hw; clear hw)
  go_ret2
  exact ⟨rfl, hb⟩

theorem bitLen_log : ∀ p : Fin 1001, 2 ≤ p.val → Lib.bitLen p.val = p.val.log2 + 1 ∧ 1 ≤ p.val.log2 ∧ p.val.log2 ≤ 9 := by decide +kernel
theorem fsq_ok : ∀ p : Fin 1001, 2 ≤ p.val → p.val * 2 ^ (62 - p.val.log2) < 9223372036854775808 := by decide +kernel

theorem bits_or (a b : Nat) (ha : a < 18446744073709551616) (hb : b < 18446744073709551616) : bits BinOp.or IntKind.u64 (a : Int) (b : Int) = ((a ||| b : Nat) : Int) := by
  have e : ∀ n : Nat, n < 18446744073709551616 → (BitVec.ofInt 64 (n : Int)).toNat = n := fun n h => by
    rw [BitVec.toNat_ofInt]
    omega
  have h := Nat.or_lt_two_pow (n := 64) (x := a) (y := b) (by show a < 18446744073709551616; exact ha) (by show b < 18446744073709551616; exact hb)
  unfold bits
  show IntKind.u64.wrap (((BitVec.ofInt 64 (a : Int) ||| BitVec.ofInt 64 (b : Int)).toNat : Nat) : Int) = _
  rw [BitVec.toNat_or, e a ha, e b hb]
  have h2 : a ||| b < 18446744073709551616 := h
  generalize a ||| b = c at *
  exact IntWalk.u64_in _ (by omega)
theorem or_quot {x h l : Nat} (hx : x < 9223372036854775808) (e1 : h = x * x / 18446744073709551616) (e2 : l = x * x % 18446744073709551616) :
    h < 4611686018427387904 ∧ bits BinOp.or IntKind.u64 ((h : Int) * 4) ((l : Int) / 4611686018427387904) = ((x * x / 4611686018427387904 : Nat) : Int) ∧ x * x / 4611686018427387904 < 18446744073709551616 := by
  have hxx : x * x ≤ 9223372036854775807 * 9223372036854775807 := Nat.mul_le_mul (by omega) (by omega)
  generalize x * x = q at *
  have hh : h < 4611686018427387904 := by omega
  refine ⟨hh, ?_, by omega⟩
  have c1 : ((h : Int) * 4) = ((h * 4 : Nat) : Int) := (Int.natCast_mul h 4).symm
  have c2 : ((l : Int) / 4611686018427387904) = ((l / 4611686018427387904 : Nat) : Int) := (Int.natCast_ediv l 4611686018427387904).symm
  rw [c1, c2, bits_or _ _ (by omega) (by omega)]
  have hor := Nat.two_pow_add_eq_or_of_lt (i := 2) (b := l / 4611686018427387904) (by omega) h
  rw [show h * 4 = 2 ^ 2 * h by omega, ← hor]
  congr 1
  omega

set_option maxRecDepth 100000 in
set_option maxHeartbeats 1000000 in
theorem fast_any (p a : Nat) (w : World) (h2 : 2 ≤ p) (hp : p ≤ 1000) (h : fastO p = some a) :
    Calls Tryz.prog 246 #[.int .i64 p] w fun e w' => e = .returned (.tuple #[.int .i64 a, .bool true]) ∧ w = w' := by
  obtain ⟨hb, hk1, hk9⟩ := bitLen_log ⟨p, by omega⟩ h2
  have hs := fsq_ok ⟨p, by omega⟩ h2
  dsimp only at hb hk1 hk9 hs
  unfold fastO at h
  obtain ⟨S26, hS26, ha⟩ : ∃ s, fsqs 26 (p * 2 ^ (62 - p.log2), p * 2 ^ (62 - p.log2), p.log2) = some s ∧ s.2.2 = a := by
    cases hq : fsqs 26 (p * 2 ^ (62 - p.log2), p * 2 ^ (62 - p.log2), p.log2) with
    | none => rw [hq] at h; cases h
    | some s => rw [hq] at h; injection h with h; exact ⟨s, rfl, h⟩
  have HL := Tryz.bits_Len (p : Int) w (by omega) (by omega)
  rw [Int.toNat_natCast, hb] at HL
  have HL := Lib.hid HL
  clear hb
  clear h
  generalize p.log2 = k at *
  have e0 : ((p : Int) * 2 ^ (62 - k)) = ((p * 2 ^ (62 - k) : Nat) : Int) := by push_cast; rfl
  have HW : IntKind.u64.wrap ((p : Int) * 2 ^ (62 - k)) = ((p * 2 ^ (62 - k) : Nat) : Int) := by
    rw [e0]
    generalize p * 2 ^ (62 - k) = m at *
    exact IntWalk.u64_in _ (by omega)
  clear e0
  generalize p * 2 ^ (62 - k) = m at *
  have HMS : Box (m < 9223372036854775808) := ⟨hs⟩
  clear hs
  have HS := Lib.hid hS26
  have HA := Lib.hid ha
  clear hS26 ha
  have hkw : ((k + 1 : Nat) : Int) - 1 = (k : Int) := by omega
  have h62 : (0 : Int) ≤ 62 - (k : Int) := by omega
  go_enter Tryz.func246, Tryz.ntmps246
  go_wp2_with (go_at_call 71; refine HL.out.mono ?_; rintro e w' ⟨rfl, hw⟩; have hw2 := hw.symm; clear hw; subst hw2)
  go_loopw [5, 6, 7, 21] (fun v5 v6 v7 v21 wr => ∃ j lo hi out : Nat, v5 = .int .u64 lo ∧ v6 = .int .u64 hi ∧ v7 = .int .i64 out ∧ v21 = .int .i64 j ∧ j ≤ 26 ∧ Box (fsqs (26 - j) (lo, hi, out) = some S26) ∧ Box (lo < 9223372036854775808 ∧ hi < 9223372036854775808 ∧ out < 2 ^ (j + 4)) ∧ w = wr) (fun _ _ _ v21 _ => 26 - (intOf v21).toNat)
  case atStart => exact ⟨0, _, _, k, rfl, rfl, rfl, rfl, by omega, ⟨HS.out⟩, ⟨HMS.out, HMS.out, by omega⟩, rfl⟩
  case round =>
    obtain ⟨j, lo, hi, out, rfl, rfl, rfl, rfl, hj, HF, HB, rfl⟩ := hrel
    by_cases hlt : j < 26
    · have hlo : lo < 18446744073709551616 := by have := HB.out; omega
      have hhi : hi < 18446744073709551616 := by have := HB.out; omega
      have HM1 := Tryz.bits_Mul64 lo lo hlo hlo w
      have HM2 := Tryz.bits_Mul64 hi hi hhi hhi w
      obtain ⟨s', hs', hf'⟩ : ∃ s', fsq lo hi out = some s' ∧ fsqs (26 - (j + 1)) s' = some S26 := by
        have h := HF.out
        rw [show 26 - j = (26 - (j + 1)) + 1 by omega, fsqs] at h
        dsimp only at h
        split at h
        · cases h
        · rename_i s' hs'
          exact ⟨s', hs', h⟩
      unfold fsq at hs'
      obtain ⟨q1, q2, q3⟩ := or_quot HB.out.1 rfl rfl
      obtain ⟨r1, r2, r3⟩ := or_quot HB.out.2.1 rfl rfl
      generalize lo * lo / 18446744073709551616 = H1 at *
      generalize lo * lo % 18446744073709551616 = L1 at *
      generalize hi * hi / 18446744073709551616 = H2 at *
      generalize hi * hi % 18446744073709551616 = L2 at *
      generalize lo * lo / 4611686018427387904 = LL at *
      generalize hi * hi / 4611686018427387904 = HH at *
      have HM1 := Lib.hid HM1
      have HM2 := Lib.hid HM2
      have hp2 : 2 ^ (j + 1 + 4) = 2 * 2 ^ (j + 4) := by rw [show j + 1 + 4 = (j + 4) + 1 by omega, Nat.pow_succ, Nat.mul_comm]
      have hpb : 2 ^ (j + 4) ≤ 2 ^ 29 := Nat.pow_le_pow_right (by omega) (by omega)
      have ho30 : out ≤ 536870912 := by have := HB.out; omega
      have HP2 : Box (2 ^ (j + 1 + 4) = 2 * 2 ^ (j + 4)) := ⟨hp2⟩
      clear hp2 hpb hlo hhi
      have hw1 : IntKind.u64.wrap ((H1 : Int) * 4) = (H1 : Int) * 4 := IntWalk.u64_in _ (by omega)
      have hw2 : IntKind.u64.wrap ((H2 : Int) * 4) = (H2 : Int) * 4 := IntWalk.u64_in _ (by omega)
      by_cases c1 : 18446744073709551616 ≤ HH + 3
      · rw [if_pos c1] at hs'
        cases hs'
      · rw [if_neg c1] at hs'
        obtain ⟨X, hX⟩ : ∃ X, X = HH + 1 := ⟨_, rfl⟩
        have hx1 : IntKind.u64.wrap ((HH : Int) + 1) = (X : Int) := by rw [hX]; push_cast; exact IntWalk.u64_in _ (by omega)
        obtain ⟨Y, hY⟩ : ∃ Y, Y = X / 2 + 1 := ⟨_, rfl⟩
        have hy1 : IntKind.u64.wrap ((X : Int) / 2 + 1) = (Y : Int) := by rw [hY]; push_cast; exact IntWalk.u64_in _ (by omega)
        have HX : Box (X = HH + 1 ∧ Y = X / 2 + 1 ∧ LL < 18446744073709551616 ∧ HH + 3 < 18446744073709551616) := ⟨hX, hY, q3, by omega⟩
        by_cases c2 : 9223372036854775808 ≤ LL
        · rw [if_pos c2] at hs'
          have HS' : Box ((LL / 2, (HH + 1) / 2 + 1, 2 * out + 1) = s') := ⟨by injection hs'⟩
          have HF' := Lib.hid hf'
          have d1 : decide ((9223372036854775808 : Int) ≤ (LL : Int)) = true := by rw [decide_eq_true_eq]; omega
          clear hs' hf' c1 c2 q1 q3 r1 r3 hX hY
          go_wp2_with fail
          refine HM1.out.mono ?_
          rintro e w1 ⟨rfl, hw⟩
          have hw2 := hw.symm
          clear hw
          subst hw2
          go_wp2_with fail
          refine HM2.out.mono ?_
          rintro e w1 ⟨rfl, hw⟩
          have hw2 := hw.symm
          clear hw
          subst hw2
          go_wp2_with fail
          go_roundw
          case rel =>
            refine ⟨j + 1, LL / 2, Y, 2 * out + 1, ?_, rfl, ?_, by go_num, by omega, ⟨?_⟩, ⟨?_, ?_, ?_⟩, trivial⟩
            · go_num
            · go_num
            · rw [show (LL / 2, Y, 2 * out + 1) = s' by rw [← HS'.out, HX.out.2.1, HX.out.1]]
              exact HF'.out
            · have := HX.out; omega
            · have := HX.out; omega
            · have := HB.out; rw [HP2.out]; omega
          case measure => simp [intOf]; omega
        · rw [if_neg c2] at hs'
          by_cases c3 : 9223372036854775808 ≤ HH + 1
          · rw [if_pos c3] at hs'
            cases hs'
          rw [if_neg c3] at hs'
          have HS' : Box ((LL, HH + 1, 2 * out) = s') := ⟨by injection hs'⟩
          have HF' := Lib.hid hf'
          have d1 : decide ((9223372036854775808 : Int) ≤ (LL : Int)) = false := by rw [decide_eq_false_iff_not]; omega
          have d2 : decide ((9223372036854775808 : Int) ≤ (X : Int)) = false := by rw [decide_eq_false_iff_not]; omega
          have HC : Box (¬ 9223372036854775808 ≤ LL ∧ ¬ 9223372036854775808 ≤ HH + 1) := ⟨c2, c3⟩
          clear hs' hf' c1 c2 c3 q1 q3 r1 r3 hX hY
          go_wp2_with fail
          refine HM1.out.mono ?_
          rintro e w1 ⟨rfl, hw⟩
          have hw2 := hw.symm
          clear hw
          subst hw2
          go_wp2_with fail
          refine HM2.out.mono ?_
          rintro e w1 ⟨rfl, hw⟩
          have hw2 := hw.symm
          clear hw
          subst hw2
          go_wp2_with fail
          go_roundw
          case rel =>
            refine ⟨j + 1, LL, X, 2 * out, rfl, rfl, ?_, by go_num, by omega, ⟨?_⟩, ⟨?_, ?_, ?_⟩, trivial⟩
            · go_num
            · rw [show (LL, X, 2 * out) = s' by rw [← HS'.out, HX.out.1]]
              exact HF'.out
            · have := HC.out; omega
            · have := HC.out; have := HX.out; omega
            · have := HB.out; rw [HP2.out]; omega
          case measure => simp [intOf]; omega
    · obtain rfl : j = 26 := by omega
      have HE : Box (out = a) := ⟨by
        have h := HF.out
        rw [Nat.sub_self, fsqs] at h
        injection h with h
        have h2 := HA.out
        rw [← h] at h2
        exact h2⟩
      clear HF HB
      have he := HE.out
      clear HE
      subst he
      go_wp2_with fail
      go_ret2
      exact ⟨rfl, rfl⟩

end Go.Proofs.YteenfcmnmenigaaGreatDoor

namespace Go.Proofs.YteenfcmnmenigaaGreatDoor
open Go.RowKit Go.Lib Go.Shelf
attribute [local go_sem] Oper.semAt_some

theorem fastL_le : ∀ p : Fin 1001, fastL p.val ≤ 671088640 := by decide +kernel

theorem keeps_below {W W' : World} (h : Below W.heap.size W W') (B : Nat) : KeepsFrom B W W' := ⟨h.size, fun k _ _ hk _ => (h.block k (Array.getElem?_eq_some_iff.1 hk).1).trans hk⟩

theorem Row.z_at {w : World} {B n k : Nat} {A : Option Addr} {l : List Int} (h : Row w B 1 A n (zstrs l)) (hk : k < n) :
    ∃ ad, A = some ad ∧ ad.block < B ∧ w.cell? (ad.add k) = some (.string ⟨(itoa (l[k]?.getD 0)).toArray⟩) := by
  have hl : k < l.length := by have := h.len; rw [zstrs_len] at this; omega
  obtain ⟨ad, e, hb, hc⟩ := h.get k (.string ⟨(itoa l[k]).toArray⟩) (by unfold zstrs; rw [List.getElem?_map, List.getElem?_eq_getElem hl]; rfl)
  exact ⟨ad, e, hb, by rw [hc, List.getElem?_eq_getElem hl]; rfl⟩

/-- A prime and its factor. -/
abbrev Trm := { x : Nat × Int // 2 ≤ x.1 ∧ x.1 ≤ 1000 ∧ x.2.natAbs ≤ 20000 ∧ (fastO x.1).isSome = true }
def trmEnc (x : Trm) : Array Value := #[.int .i64 (x.1.1 : Int), .string ⟨(itoa x.1.2).toArray⟩]
def trmP (l : List Trm) : List Int := l.map fun x => (x.1.1 : Int)
def trmF (l : List Trm) : List Int := l.map fun x => x.1.2

/-- What a round keeps: what lay below n₀, and the block Bs. -/
def KpB (e : TypeId) (n₀ Bs : Nat) (W W' : World) : Prop := Below n₀ W W' ∧ ∀ xs, Cells W Bs e xs → Cells W' Bs e xs
theorem KpB.refl (e : TypeId) (n₀ Bs : Nat) (W : World) : KpB e n₀ Bs W W := ⟨Below.refl _ _, fun _ h => h⟩
theorem kpB_t {e : TypeId} {n₀ Bs : Nat} {A B C : World} (h : KpB e n₀ Bs A B) (k : KpB e n₀ Bs B C) : KpB e n₀ Bs A C := ⟨h.1.trans k.1, fun xs hc => k.2 xs (h.2 xs hc)⟩
theorem kpB_b {e : TypeId} {n₀ Bs : Nat} {w : World} (hn : n₀ ≤ w.heap.size) (hB : Bs < w.heap.size) (W : World) (l : Nat) (o o' : Obj) (hl : w.heap.size ≤ l) (h : W.heap[l]? = some o) (hc : o.isCells = false) (hw : o.isWalk = false) : KpB e n₀ Bs W (W.putObj l o') :=
  ⟨belowK_b hn W l o o' hl h hc hw, fun _ hx => (World.putObj_heap_other (by omega)).trans hx⟩

set_option maxRecDepth 100000 in
set_option maxHeartbeats 2000000 in
theorem all1_in (n : Nat) (hn : 1 ≤ n) (l Bs n₀ : Nat) (A1 A2 : Option Addr) (c1 c2 : Nat) (zs : List Trm) (den : Value) (J Jx : List Trm → World → Prop) (W : World)
    (hz : zs.length ≤ 1000)
    (hY : ∀ pre x W, J pre W → pre.length < zs.length → YieldAt Fence.wide (n - 1) Tryz.prog l (trmEnc x) W fun e W' =>
      (e = .returned (.bool true) ∧ J (pre ++ [x]) W' ∧ KpB 259 n₀ Bs W W') ∨ (e = .returned (.bool false) ∧ Jx (pre ++ [x]) W'))
    (hc : Cells W Bs 259 [.slice A1 zs.length c1, .slice A2 zs.length c2, den]) (h1 : Row W n₀ 1 A1 zs.length (is (trmP zs))) (h2 : Row W n₀ 1 A2 zs.length (zstrs (trmF zs))) (h0 : J [] W) :
    CallsIn Fence.wide n Tryz.prog 247 #[.func (.yield l) #[] #[], .pointer (some ⟨Bs, 0, Option.none⟩)] W fun e W' => (∃ v, e = .returned v) ∧
      ((∃ ys, ys = zs ∧ J ys W') ∨ (∃ pre, pre <+: zs ∧ Jx pre W')) := by
  refine callsIn_of_wp Tryz.func247 rfl trivial ?_ rfl
  simp only [Tryz.ntmps247, List.size_toArray, List.length_cons, List.length_nil, Nat.reduceAdd, Nat.reduceSub, Array.replicate_succ, Array.replicate_zero, List.push_toArray, List.append_toArray, List.nil_append, List.cons_append]
  have hcs := cells2 hc
  obtain ⟨⟨g0, g1, g2⟩, _, _, _⟩ := hcs
  gi_wp2
  gi_loopw [8] (fun i wr => ∃ k : Nat, k ≤ zs.length ∧ i = .int .i64 k ∧ J (zs.take k) wr ∧ KpB 259 n₀ Bs W wr) (fun i _ => zs.length - (intOf i).toNat)
  case atStart => exact ⟨0, Nat.zero_le _, rfl, h0, KpB.refl _ _ _ _⟩
  case round =>
    obtain ⟨k, hk, rfl, hJs, hnx⟩ := hrel
    have g1' : wr.cell? ⟨Bs, 1, Option.none⟩ = some (.slice A2 zs.length c2) := (hnx.2 _ hc).cell 1
    by_cases hlt : k < zs.length
    · obtain ⟨ad1, rfl, hb1, q1⟩ := h1.i_at hlt
      obtain ⟨ad2, rfl, hb2, q2⟩ := h2.z_at hlt
      have q1' := (hnx.1.cell (p := ad1.add k) (by rw [add_block]; exact hb1)).trans q1
      have q2' := (hnx.1.cell (p := ad2.add k) (by rw [add_block]; exact hb2)).trans q2
      rw [show (trmP zs)[k]?.getD 0 = ((zs[k].1.1 : Nat) : Int) by unfold trmP; rw [List.getElem?_map, List.getElem?_eq_getElem hlt]; rfl] at q1'
      rw [show (trmF zs)[k]?.getD 0 = zs[k].1.2 by unfold trmF; rw [List.getElem?_map, List.getElem?_eq_getElem hlt]; rfl] at q2'
      have htk : zs.take (k + 1) = zs.take k ++ [zs[k]] := (List.take_append_getElem hlt).symm
      obtain ⟨fn, tmps, assign, body, hy, hR⟩ := hY _ zs[k] wr hJs (by rw [List.length_take]; omega)
      unfold trmEnc at hy
      generalize zs[k] = x at *
      gi_wp2
      refine hR.mono ?_
      rintro e W3 (⟨rfl, hJ3, hk3⟩ | ⟨rfl, hJx3⟩)
      · gi_wp2
        go_roundw
        case rel => exact ⟨k + 1, by omega, by simp, by rw [htk]; exact hJ3, kpB_t hnx hk3⟩
        case measure => simp [intOf]; omega
      · gi_wp2
        refine bodyPost_ret (results_none rfl _ _ _) rfl ?_
        exact ⟨⟨_, rfl⟩, .inr ⟨_, List.take_prefix (k + 1) zs, by rw [htk]; exact hJx3⟩⟩
    · obtain rfl : k = zs.length := by omega
      rw [List.take_length] at hJs
      gi_wp2
      go_end0
      exact ⟨⟨_, rfl⟩, .inl ⟨_, rfl, hJs⟩⟩

theorem all_stops (n : Nat) (hn : 1 ≤ n) (Bs n₀ : Nat) (A1 A2 : Option Addr) (c1 c2 : Nat) (zs : List Trm) (den : Value) (w : World) (hn₀ : n₀ ≤ w.heap.size) (hz : zs.length ≤ 1000)
    (hc : Cells w Bs 259 [.slice A1 zs.length c1, .slice A2 zs.length c2, den]) (h1 : Row w n₀ 1 A1 zs.length (is (trmP zs))) (h2 : Row w n₀ 1 A2 zs.length (zstrs (trmF zs))) :
    SeqStopsK Fence.wide n Tryz.prog 247 #[.pointer (some ⟨Bs, 0, Option.none⟩)] trmEnc (KpB 259 n₀ Bs) (fun ys => ys = zs) (fun pre => pre <+: zs) zs.length w := fun l J Jx W hW _ _ hY h0 =>
  all1_in n hn l Bs n₀ A1 A2 c1 c2 zs den J Jx W hz hY (hc.below hW hc.lt) (h1.below (hW.mono hn₀) (Nat.le_refl _)) (h2.below (hW.mono hn₀) (Nat.le_refl _)) h0

set_option maxHeartbeats 1000000 in
theorem all_in (n : Nat) (v1 v2 den : Value) (w : World) :
    CallsIn Fence.wide n Tryz.prog 239 #[.agg #[v1, v2, den]] w fun e w' => e = .returned (.func (.func 247) #[] #[.pointer (some ⟨w.heap.size, 0, Option.none⟩)]) ∧ w' = w.alloc (.cells #[v1, v2, den] 259) := by
  refine callsIn_of_wp Tryz.func239 rfl trivial ?_ rfl
  simp only [Tryz.ntmps239, List.size_toArray, List.length_cons, List.length_nil, Nat.reduceAdd, Nat.reduceSub, Array.replicate_succ, Array.replicate_zero, List.push_toArray, List.append_toArray, List.nil_append, List.cons_append]
  gi_wp2
  go_ret
  exact ⟨rfl, rfl⟩

end Go.Proofs.YteenfcmnmenigaaGreatDoor

namespace Go.Proofs.YteenfcmnmenigaaGreatDoor
open Go.RowKit Go.Lib Go.Shelf
attribute [local go_sem] Oper.semAt_some

/-- The bounds of one term, and of terms. -/
def loT (x : Int × Int) : Int := min (x.2 * lgA x.1) (x.2 * lgB x.1)
def hiT (x : Int × Int) : Int := max (x.2 * lgA x.1) (x.2 * lgB x.1)
def loZ : List Trm → Int
  | [] => 0
  | x :: l => loT (x.1.1, x.1.2) + loZ l
def hiZ : List Trm → Int
  | [] => 0
  | x :: l => hiT (x.1.1, x.1.2) + hiZ l
theorem loZ_snoc (l : List Trm) (x : Trm) : loZ (l ++ [x]) = loZ l + loT (x.1.1, x.1.2) := by
  induction l with
  | nil => simp [loZ]
  | cons a l ih => simp only [List.cons_append, loZ, ih]; omega
theorem hiZ_snoc (l : List Trm) (x : Trm) : hiZ (l ++ [x]) = hiZ l + hiT (x.1.1, x.1.2) := by
  induction l with
  | nil => simp [hiZ]
  | cons a l ih => simp only [List.cons_append, hiZ, ih]; omega

theorem mul_bnd20 {z a : Int} (hz : z.natAbs ≤ 20000) (h0 : 0 ≤ a) (h1 : a ≤ 671088641) : -13421772820000 ≤ z * a ∧ z * a ≤ 13421772820000 := by
  have h : (z * a).natAbs ≤ 20000 * 671088641 := by rw [Int.natAbs_mul]; exact Nat.mul_le_mul hz (by omega)
  omega

theorem trm_lg (x : Trm) : ∃ a : Nat, fastO x.1.1 = some a ∧ lgA (x.1.1 : Int) = a ∧ a ≤ 671088640 ∧ lgB (x.1.1 : Int) = (if (x.1.1 : Int) = 2 then (a : Int) else a + 1) := by
  obtain ⟨⟨p, z⟩, h2, hp, hz, hs⟩ := x
  obtain ⟨a, ha⟩ := Option.isSome_iff_exists.1 hs
  dsimp only at *
  have hA : lgA (p : Int) = a := by unfold lgA fastL; rw [Int.toNat_natCast, ha]; rfl
  refine ⟨a, ha, hA, ?_, ?_⟩
  · have h := fastL_le ⟨p, by omega⟩
    dsimp only at h
    unfold fastL at h
    rw [ha] at h
    exact h
  · unfold lgB
    rw [hA]
theorem loT_bound (x : Trm) : -13421772820000 ≤ loT (x.1.1, x.1.2) ∧ loT (x.1.1, x.1.2) ≤ 13421772820000 ∧ -13421772820000 ≤ hiT (x.1.1, x.1.2) ∧ hiT (x.1.1, x.1.2) ≤ 13421772820000 := by
  obtain ⟨a, h1, h2, h3, h4⟩ := trm_lg x
  have k1 := mul_bnd20 (z := x.1.2) (a := lgA (x.1.1 : Int)) x.2.2.2.1 (by omega) (by omega)
  have k2 := mul_bnd20 (z := x.1.2) (a := lgB (x.1.1 : Int)) x.2.2.2.1 (by rw [h4]; split <;> omega) (by rw [h4]; split <;> omega)
  unfold loT hiT
  dsimp only
  omega
theorem loZ_bound : ∀ l : List Trm, -13421772820000 * (l.length : Int) ≤ loZ l ∧ loZ l ≤ 13421772820000 * (l.length : Int) ∧ -13421772820000 * (l.length : Int) ≤ hiZ l ∧ hiZ l ≤ 13421772820000 * (l.length : Int)
  | [] => by simp [loZ, hiZ]
  | x :: l => by
    have h1 := loT_bound x
    have h2 := loZ_bound l
    simp only [loZ, hiZ, List.length_cons]
    push_cast
    omega

theorem cells_kept {W W' : World} {row : Option Nat} {B : Nat} {t : TypeId} {xs : List Value} (h : Cells W B t xs) (hg : W.grownBy W' row) (hrow : ∀ r, row = some r → ∃ o : Obj, W.heap[r]? = some o ∧ o.isCells = false) : Cells W' B t xs :=
  h.grown hg (fun e' => by
    obtain ⟨o, ho, hc⟩ := hrow B e'.symm
    unfold Cells at h
    rw [h] at ho
    cases ho
    cases hc)

set_option maxRecDepth 100000 in
set_option maxHeartbeats 4000000 in
theorem near_any (v1 v2 den : Value) (m : Int) (zs : List Trm) (w : World) (hz : zs.length ≤ 1000) (hm : 20000 ≤ m) (hm2 : m ≤ 10000000)
    (h1 : IsRow w w.heap.size v1 (trmP zs)) (h2 : IsZs w w.heap.size v2 (trmF zs)) :
    Calls Tryz.prog 237 #[.agg #[v1, v2, den], .int .i64 m] w fun e w' => e = .returned (.tuple #[.int .i64 (loZ zs), .int .i64 (hiZ zs), .bool true]) ∧ Below w.heap.size w w' := by
  obtain ⟨A1, c1, rfl, _, _, hr1⟩ := h1
  obtain ⟨A2, c2, rfl, _, _, hr2⟩ := h2
  have e1 : (trmP zs).length = zs.length := by simp [trmP]
  have e2 : (trmF zs).length = zs.length := by simp [trmF]
  rw [e1] at hr1 ⊢
  rw [e2] at hr2 ⊢
  have hneg : IntKind.i64.wrap (-m) = -m := IntWalk.i64_in _ (by omega)
  refine (callsIn_wide (n := 3)).1 ?_
  refine callsIn_of_wp_marks Tryz.func237 rfl trivial ?_ rfl
  simp only [Tryz.ntmps237, List.size_toArray, List.length_cons, List.length_nil, Nat.reduceAdd, Nat.reduceSub, Array.replicate_succ, Array.replicate_zero, List.push_toArray, List.append_toArray, List.nil_append, List.cons_append]
  gi_wp2_with (refine ⟨trivial, ?_⟩; gi_at_call 239; refine (all_in _ _ _ _ _).mono ?_; rintro e w' ⟨rfl, rfl⟩)
  have b0 := Cells.new w 259 #[.slice A1 zs.length c1, .slice A2 zs.length c2, den]
  obtain ⟨wA, hwA⟩ : ∃ wA, wA = w.alloc (.cells #[.slice A1 zs.length c1, .slice A2 zs.length c2, den] 259) := ⟨_, rfl⟩
  have sA : wA.heap.size = w.heap.size + 1 := by rw [hwA]; simp
  have b1 := Cells.new wA 3 #[.int .i64 m]
  obtain ⟨wB, hwB⟩ : ∃ wB, wB = wA.alloc (.cells #[.int .i64 m] 3) := ⟨_, rfl⟩
  have sB : wB.heap.size = w.heap.size + 1 + 1 := by rw [hwB]; simp [sA]
  have b2 := Cells.new wB 3 #[.int .i64 0]
  obtain ⟨wC, hwC⟩ : ∃ wC, wC = wB.alloc (.cells #[.int .i64 0] 3) := ⟨_, rfl⟩
  have sC : wC.heap.size = w.heap.size + 1 + 1 + 1 := by rw [hwC]; simp [sB]
  have b3 := Cells.new wC 3 #[.int .i64 0]
  obtain ⟨wD, hwD⟩ : ∃ wD, wD = wC.alloc (.cells #[.int .i64 0] 3) := ⟨_, rfl⟩
  have sD : wD.heap.size = w.heap.size + 1 + 1 + 1 + 1 := by rw [hwD]; simp [sC]
  have b4 := Cells.new wD 4 #[.bool false]
  obtain ⟨wE, hwE⟩ : ∃ wE, wE = wD.alloc (.cells #[.bool false] 4) := ⟨_, rfl⟩
  have sE : wE.heap.size = w.heap.size + 1 + 1 + 1 + 1 + 1 := by rw [hwE]; simp [sD]
  have b5 := Cells.new wE 259 #[.slice A1 zs.length c1, .slice A2 zs.length c2, den]
  rw [← hwA, ← hwB, ← hwC, ← hwD, ← hwE]
  rw [← hwB, sA] at b1
  rw [← hwC, sB] at b2
  rw [← hwD, sC] at b3
  rw [← hwE, sD] at b4
  rw [sE] at b5
  have hB0 : Below w.heap.size w (wE.alloc (.cells #[.slice A1 zs.length c1, .slice A2 zs.length c2, den] 259)) := by
    rw [hwE, hwD, hwC, hwB, hwA]
    exact ((((((Below.refl _ w).alloc (Nat.le_refl _) _).alloc (by simp) _).alloc (by simp; omega) _).alloc (by simp; omega) _).alloc (by simp; omega) _).alloc (by simp; omega) _
  have c1' := (((b1.alloc (.cells #[.int .i64 0] 3)).alloc (.cells #[.int .i64 0] 3)).alloc (.cells #[.bool false] 4)).alloc (.cells #[.slice A1 zs.length c1, .slice A2 zs.length c2, den] 259)
  have c2' := ((b2.alloc (.cells #[.int .i64 0] 3)).alloc (.cells #[.bool false] 4)).alloc (.cells #[.slice A1 zs.length c1, .slice A2 zs.length c2, den] 259)
  have c3' := (b3.alloc (.cells #[.bool false] 4)).alloc (.cells #[.slice A1 zs.length c1, .slice A2 zs.length c2, den] 259)
  have c4' := b4.alloc (.cells #[.slice A1 zs.length c1, .slice A2 zs.length c2, den] 259)
  rw [← hwC, ← hwD, ← hwE] at c1'
  rw [← hwD, ← hwE] at c2'
  rw [← hwE] at c3'
  clear b1 b2 b3 b4
  refine wpIn_rangeFunc_ownG rfl (by omega) (gf := 247) (lb := #[.pointer (some ⟨w.heap.size + 1 + 1 + 1 + 1 + 1, 0, Option.none⟩)]) rfl trivial (enters_of Tryz.func247 (by kernel_rfl) rfl)
    (all_stops _ (by omega) (w.heap.size + 1 + 1 + 1 + 1 + 1) w.heap.size A1 A2 c1 c2 zs den _ (by have := hB0.size; exact this) hz b5 (hr1.below hB0 (Nat.le_refl _)) (hr2.below hB0 (Nat.le_refl _))) kpB_t (kpB_b (by have := hB0.size; exact this) b5.lt) (Below.refl _ _) (fun _ => rfl)
    (fun pre W => (Cells W (w.heap.size + 1) 3 [.int .i64 m] ∧ Cells W (w.heap.size + 1 + 1) 3 [.int .i64 (loZ pre)] ∧ Cells W (w.heap.size + 1 + 1 + 1) 3 [.int .i64 (hiZ pre)] ∧ Cells W (w.heap.size + 1 + 1 + 1 + 1) 4 [.bool false]) ∧ Below w.heap.size w W)
    (fun _ _ _ => False)
    (OwnFrom.and (Own.from (fun s A B row hs hg hr => ⟨cells_kept hs.1 hg hr, cells_kept hs.2.1 hg hr, cells_kept hs.2.2.1 hg hr, cells_kept hs.2.2.2 hg hr⟩) _) (ownFrom_below (Nat.le_refl _) (by have := hB0.size; exact this)))
    (fun _ _ _ _ _ hs _ _ => hs)
    ⟨⟨c1', c2', c3', c4'⟩, hB0⟩
    (fun x : Trm => { tmps := #[Value.agg #[Value.slice A1 zs.length c1, Value.slice A2 zs.length c2, den], Value.int IntKind.i64 m, Value.pointer (some { block := w.heap.size, off := 0 }), Value.pointer (some { block := w.heap.size + 1, off := 0 }), Value.pointer (some { block := w.heap.size + 1 + 1, off := 0 }), Value.pointer (some { block := w.heap.size + 1 + 1 + 1, off := 0 }), Value.pointer (some { block := w.heap.size + 1 + 1 + 1 + 1, off := 0 }), .int .i64 (x.1.1 : Int), .string ⟨(itoa x.1.2).toArray⟩, undef, undef, undef, undef, undef, Value.agg #[Value.slice A1 zs.length c1, Value.slice A2 zs.length c2, den], Value.func (Fn.func 247) #[] #[Value.pointer (some { block := w.heap.size + 1 + 1 + 1 + 1 + 1, off := 0 })], .int .i64 (x.1.1 : Int), .string ⟨(itoa x.1.2).toArray⟩, undef, undef, undef, undef, undef, undef, undef, undef, undef, undef, undef, undef, undef, undef, undef, undef, undef, undef, undef, undef, undef, undef, undef, undef, undef, undef, undef, undef, undef, undef, undef, undef, undef, undef, undef, undef, undef, undef, undef, undef, undef, undef, undef, undef, undef, undef, undef, undef, undef, undef], defers := [] }) ?assign ?body ?done ?stop
  case assign =>
    intro l x W K hK
    dsimp only [trmEnc] at *
    gi_wp2
    exact hK
  case body =>
    rintro l pre x W ⟨⟨k1, k2, k3, k4⟩, hB⟩ hpl
    obtain ⟨a, ha, hA, ha2, hBB⟩ := trm_lg x
    have hzb := x.2.2.2.1
    have d1 : decide (m < x.1.2) = false := by rw [decide_eq_false_iff_not]; omega
    have d2 : decide (x.1.2 < -m) = false := by rw [decide_eq_false_iff_not]; omega
    have q1 := k1.cell 0
    have q2 := k2.cell 0
    have q3 := k3.cell 0
    have HS := fun W => Lib.hid (whSmall_any x.1.2 W (by omega) (by omega))
    have HF := fun W => Lib.hid (fast_any x.1.1 a W x.2.1 x.2.2.1 ha)
    have hp := x.2.2.1
    have hp2 := x.2.1
    generalize hpe : x.1.1 = p at *
    generalize hze : x.1.2 = z at *
    generalize hzl : itoa z = zl at *
    gi_wp2_with (first | (refine ⟨trivial, ?_⟩; gi_at_call 178; refine (CallsIn.inRound l (callsIn_wide.2 (HS _).out)).mono ?_; rintro e w1 ⟨rfl, hb1⟩; have hm1 := (k1.below hb1 k1.lt).cell 0) | (refine ⟨trivial, ?_⟩; gi_at_call 246; refine (CallsIn.inRound l (callsIn_wide.2 (HF _).out)).mono ?_; rintro e w2 ⟨rfl, hw2⟩; subst hw2))
    · have hlb : lgB (p : Int) = (a : Int) := by rw [hBB]; rw [if_pos (by simpa using ‹((p : Int) == 2) = true›)]
      clear hBB
      obtain ⟨P1, hP1⟩ : ∃ P, P = z * (a : Int) := ⟨_, rfl⟩
      have m1 := mul_bnd20 (z := z) (a := (a : Int)) hzb (by omega) (by omega)
      rw [← hP1] at m1
      have w1' : IntKind.i64.wrap (z * (a : Int)) = P1 := by rw [← hP1]; exact IntWalk.i64_in _ (by omega)
      have hbd := loZ_bound pre
      have hT := (k3.below hb1 k3.lt)
      have hS := (k2.below hb1 k2.lt)
      have hT0 := hT.cell 0
      have hS0 := hS.cell 0
      simp at hT0 hS0
      have hloT : loT ((p : Int), z) = P1 := by unfold loT; dsimp only; rw [hA, hlb, hP1]; exact Int.min_self _
      have hhiT : hiT ((p : Int), z) = P1 := by unfold hiT; dsimp only; rw [hA, hlb, hP1]; exact Int.max_self _
      have wl : IntKind.i64.wrap (loZ pre + P1) = loZ pre + P1 := IntWalk.i64_in _ (by omega)
      have wh : IntKind.i64.wrap (hiZ pre + P1) = hiZ pre + P1 := IntWalk.i64_in _ (by omega)
      clear hP1
      refine region_round (T := (fun w' => w'.cell? ⟨w.heap.size + 1 + 1 + 1, 0, Option.none⟩ = some (.int .i64 (hiZ pre)))) (D := [19]) (S := (fun w' => w'.cell? ⟨w.heap.size + 1 + 1, 0, Option.none⟩ = some (.int .i64 (loZ pre)))) (E := [18, 19]) (by kernel_rfl) (by kernel_rfl) (fun ⟨_, _, h⟩ => h) ?_ (fun hHeld => ?_)
      · exact ⟨hT0, hS0⟩
      have hfr1 := hS.free 0
      have hfr2 := hT.free 0
      refine anyE_loadD (i := 0) (d := some 48) (oi := _) (v := ?ev50) rfl rfl (by kernel_rfl) (by kernel_rfl) (by kernel_rfl) (by kernel_rfl) (fun _ _ _ h => h) (Or.inl ⟨by rfl, ?eh50⟩) (by assumption) ?er50
      case eh50 => (intro w hSw; (try dsimp only at hSw); go_simp; try (with_reducible rfl))
      try simp only [Act.put, List.setIfInBounds_toArray, List.set_cons_zero, List.set_cons_succ]
      refine anyE_easyD (i := 1) (d := some 49) (oi := _) (v := ?ev51) rfl rfl (by kernel_rfl) (by kernel_rfl) (by kernel_rfl) (fun _ _ _ h => h) (Or.inl ⟨by rfl, ?eh51⟩) ?er51
      case eh51 => (intro w hSw; (try dsimp only at hSw); go_simp; try (with_reducible rfl))
      try simp only [Act.put, List.setIfInBounds_toArray, List.set_cons_zero, List.set_cons_succ]
      refine anyE_easyD (i := 2) (d := some 50) (oi := _) (v := ?ev52) rfl rfl (by kernel_rfl) (by kernel_rfl) (by kernel_rfl) (fun _ _ _ h => h) (Or.inl ⟨by rfl, ?eh52⟩) ?er52
      case eh52 => (intro w hSw; (try dsimp only at hSw); go_simp; try (with_reducible rfl))
      try simp only [Act.put, List.setIfInBounds_toArray, List.set_cons_zero, List.set_cons_succ]
      refine anyE_easyD (i := 3) (d := some 51) (oi := _) (v := ?ev53) rfl rfl (by kernel_rfl) (by kernel_rfl) (by kernel_rfl) (fun _ _ _ h => h) (Or.inl ⟨by rfl, ?eh53⟩) ?er53
      case eh53 => (intro w hSw; (try dsimp only at hSw); go_simp; try (with_reducible rfl))
      try simp only [Act.put, List.setIfInBounds_toArray, List.set_cons_zero, List.set_cons_succ]
      refine anyE_easyD (i := 4) (d := some 52) (oi := _) (v := ?ev54) rfl rfl (by kernel_rfl) (by kernel_rfl) (by kernel_rfl) (fun _ _ _ h => h) (Or.inl ⟨by rfl, ?eh54⟩) ?er54
      case eh54 => (intro w hSw; (try dsimp only at hSw); go_simp; try (with_reducible rfl))
      try simp only [Act.put, List.setIfInBounds_toArray, List.set_cons_zero, List.set_cons_succ]
      refine anyE_easyD (i := 5) (d := some 53) (oi := _) (v := ?ev55) rfl rfl (by kernel_rfl) (by kernel_rfl) (by kernel_rfl) (fun _ _ _ h => h) (Or.inl ⟨by rfl, ?eh55⟩) ?er55
      case eh55 => (intro w hSw; (try dsimp only at hSw); go_simp; try (with_reducible rfl))
      try simp only [Act.put, List.setIfInBounds_toArray, List.set_cons_zero, List.set_cons_succ]
      refine anyE_easyD (i := 6) (d := some 54) (oi := _) (v := ?ev56) rfl rfl (by kernel_rfl) (by kernel_rfl) (by kernel_rfl) (fun _ _ _ h => h) (Or.inl ⟨by rfl, ?eh56⟩) ?er56
      case eh56 => (intro w hSw; (try dsimp only at hSw); go_simp; try (with_reducible rfl))
      try simp only [Act.put, List.setIfInBounds_toArray, List.set_cons_zero, List.set_cons_succ]
      refine anyE_easyD (i := 7) (d := some 55) (oi := _) (v := ?ev57) rfl rfl (by kernel_rfl) (by kernel_rfl) (by kernel_rfl) (fun _ _ _ h => h) (Or.inl ⟨by rfl, ?eh57⟩) ?er57
      case eh57 => (intro w hSw; (try dsimp only at hSw); go_simp; try (with_reducible rfl))
      try simp only [Act.put, List.setIfInBounds_toArray, List.set_cons_zero, List.set_cons_succ]
      refine anyE_easyD (i := 8) (d := some 56) (oi := _) (v := ?ev58) rfl rfl (by kernel_rfl) (by kernel_rfl) (by kernel_rfl) (fun _ _ _ h => h) (Or.inl ⟨by rfl, ?eh58⟩) ?er58
      case eh58 => (intro w hSw; (try dsimp only at hSw); go_simp; try (with_reducible rfl))
      try simp only [Act.put, List.setIfInBounds_toArray, List.set_cons_zero, List.set_cons_succ]
      refine anyE_heldD (i := 9) (d := some 57) (oi := _) (v := ?ev59) rfl rfl (by kernel_rfl) (by kernel_rfl) (by kernel_rfl) (by kernel_rfl) (fun _ _ _ h => h) (Or.inl ⟨by rfl, ?eh59⟩) (by first | exact hHeld | exact And.left hHeld) ?er59
      case eh59 => (intro w hSw; (try dsimp only at hSw); go_simp; try (with_reducible rfl))
      try simp only [Act.put, List.setIfInBounds_toArray, List.set_cons_zero, List.set_cons_succ]
      refine anyE_easyD (i := 10) (d := some 58) (oi := _) (v := ?ev60) rfl rfl (by kernel_rfl) (by kernel_rfl) (by kernel_rfl) (fun _ _ _ h => h) (Or.inl ⟨by rfl, ?eh60⟩) ?er60
      case eh60 => (intro w hSw; (try dsimp only at hSw); go_simp; try (with_reducible rfl))
      try simp only [Act.put, List.setIfInBounds_toArray, List.set_cons_zero, List.set_cons_succ]
      refine anyE_easyD (i := 11) (d := some 59) (oi := _) (v := ?ev61) rfl rfl (by kernel_rfl) (by kernel_rfl) (by kernel_rfl) (fun _ _ _ h => h) (Or.inl ⟨by rfl, ?eh61⟩) ?er61
      case eh61 => (intro w hSw; (try dsimp only at hSw); go_simp; try (with_reducible rfl))
      try simp only [Act.put, List.setIfInBounds_toArray, List.set_cons_zero, List.set_cons_succ]
      refine anyE_easyD (i := 12) (d := some 60) (oi := _) (v := ?ev62) rfl rfl (by kernel_rfl) (by kernel_rfl) (by kernel_rfl) (fun _ _ _ h => h) (Or.inl ⟨by rfl, ?eh62⟩) ?er62
      case eh62 => (intro w hSw; (try dsimp only at hSw); go_simp; try (with_reducible rfl))
      try simp only [Act.put, List.setIfInBounds_toArray, List.set_cons_zero, List.set_cons_succ]
      refine anyE_easyD (i := 13) (d := some 61) (oi := _) (v := ?ev63) rfl rfl (by kernel_rfl) (by kernel_rfl) (by kernel_rfl) (fun _ _ _ h => h) (Or.inl ⟨by rfl, ?eh63⟩) ?er63
      case eh63 => (intro w hSw; (try dsimp only at hSw); go_simp; try (with_reducible rfl))
      try simp only [Act.put, List.setIfInBounds_toArray, List.set_cons_zero, List.set_cons_succ]
      refine anyE_easyD (i := 14) (d := some 62) (oi := _) (v := ?ev64) rfl rfl (by kernel_rfl) (by kernel_rfl) (by kernel_rfl) (fun _ _ _ h => h) (Or.inl ⟨by rfl, ?eh64⟩) ?er64
      case eh64 => (intro w hSw; (try dsimp only at hSw); go_simp; try (with_reducible rfl))
      try simp only [Act.put, List.setIfInBounds_toArray, List.set_cons_zero, List.set_cons_succ]
      refine anyE_easyD (i := 15) (d := some 63) (oi := _) (v := ?ev65) rfl rfl (by kernel_rfl) (by kernel_rfl) (by kernel_rfl) (fun _ _ _ h => h) (Or.inl ⟨by rfl, ?eh65⟩) ?er65
      case eh65 => (intro w hSw; (try dsimp only at hSw); go_simp; try (with_reducible rfl))
      try simp only [Act.put, List.setIfInBounds_toArray, List.set_cons_zero, List.set_cons_succ]
      refine anyE_easyD (i := 16) (d := some 64) (oi := _) (v := ?ev66) rfl rfl (by kernel_rfl) (by kernel_rfl) (by kernel_rfl) (fun _ _ _ h => h) (Or.inl ⟨by rfl, ?eh66⟩) ?er66
      case eh66 => (intro w hSw; (try dsimp only at hSw); go_simp; try (with_reducible rfl))
      try simp only [Act.put, List.setIfInBounds_toArray, List.set_cons_zero, List.set_cons_succ]
      refine anyE_easyD (i := 17) (d := some 65) (oi := _) (v := ?ev67) rfl rfl (by kernel_rfl) (by kernel_rfl) (by kernel_rfl) (fun _ _ _ h => h) (Or.inl ⟨by rfl, ?eh67⟩) ?er67
      case eh67 => (intro w hSw; (try dsimp only at hSw); go_simp; try (with_reducible rfl))
      try simp only [Act.put, List.setIfInBounds_toArray, List.set_cons_zero, List.set_cons_succ]
      refine anyE_lastD (i := 18) (o := _) (d := Option.none) (by kernel_rfl) rfl rfl (by decide) (fun K hK => ?_)
      go_simp
      refine hK.out _ _ ?_ (fun hHeld => ?_)
      · exact cell_set_far hHeld.1 (by show w.heap.size + 1 + 1 + 1 ≠ w.heap.size + 1 + 1; omega)
      have hT' := hT.far (p := ⟨w.heap.size + 1 + 1, 0, Option.none⟩) (by show w.heap.size + 1 + 1 + 1 ≠ w.heap.size + 1 + 1; omega) (.int .i64 (loZ pre + P1))
      have hc0 := hT'.cell 0
      have hf0 := hT'.free 0
      refine anyE_endD (i := 19) (o := _) (d := Option.none) (by kernel_rfl) rfl rfl (by decide) (by decide) (fun K hK => ?_)
      go_simp
      refine hK.out _ _ ?_
      refine anyE_done (by kernel_rfl) ?_ _
      gi_wp2
      have hbk : Below w.heap.size W ((w1.drew.setCell ⟨w.heap.size + 1 + 1, 0, Option.none⟩ (.int .i64 (loZ pre + P1))).setCell ⟨w.heap.size + 1 + 1 + 1, 0, Option.none⟩ (.int .i64 (hiZ pre + P1))) := (((hb1.mono hB.size).drew).setCell (by show w.heap.size ≤ w.heap.size + 1 + 1; omega) _).setCell (by show w.heap.size ≤ w.heap.size + 1 + 1 + 1; omega) _
      refine ⟨?_, ⟨hbk, ?_⟩, ⟨?_, ?_, ?_, ?_⟩, hB.trans hbk⟩
      · exact ((keeps_below hb1 _).trans ((KeepsOthers.drew _).from _)).trans (((KeepsOthers.setCell _ _ _).from _).trans ((KeepsOthers.setCell _ _ _).from _))
      · intro xs hc
        exact (((hc.below hb1 hc.lt).drew).far (by show _ ≠ w.heap.size + 1 + 1; omega) _).far (by show _ ≠ w.heap.size + 1 + 1 + 1; omega) _
      · exact (((k1.below hb1 k1.lt).drew).far (by show _ ≠ w.heap.size + 1 + 1; omega) _).far (by show _ ≠ w.heap.size + 1 + 1 + 1; omega) _
      · have h := (((k2.below hb1 k2.lt).drew).set 0 (.int .i64 (loZ pre + P1))).far (p := ⟨w.heap.size + 1 + 1 + 1, 0, Option.none⟩) (by show _ ≠ w.heap.size + 1 + 1 + 1; omega) (.int .i64 (hiZ pre + P1))
        rw [loZ_snoc, hpe, hze, hloT]
        exact h
      · have h := (((k3.below hb1 k3.lt).drew).far (p := ⟨w.heap.size + 1 + 1, 0, Option.none⟩) (by show _ ≠ w.heap.size + 1 + 1; omega) (.int .i64 (loZ pre + P1))).set 0 (.int .i64 (hiZ pre + P1))
        rw [hiZ_snoc, hpe, hze, hhiT]
        exact h
      · exact (((k4.below hb1 k4.lt).drew).far (by show _ ≠ w.heap.size + 1 + 1; omega) _).far (by show _ ≠ w.heap.size + 1 + 1 + 1; omega) _
    · have hlb : lgB (p : Int) = ((a : Int) + 1) := by rw [hBB]; rw [if_neg (by simpa using ‹((p : Int) == 2) = false›)]
      clear hBB
      obtain ⟨P1, hP1⟩ : ∃ P, P = z * (a : Int) := ⟨_, rfl⟩
      obtain ⟨P2, hP2⟩ : ∃ P, P = z * ((a : Int) + 1) := ⟨_, rfl⟩
      have m1 := mul_bnd20 (z := z) (a := (a : Int)) hzb (by omega) (by omega)
      have m2 := mul_bnd20 (z := z) (a := ((a : Int) + 1)) hzb (by omega) (by omega)
      rw [← hP1] at m1
      rw [← hP2] at m2
      have w1' : IntKind.i64.wrap (z * (a : Int)) = P1 := by rw [← hP1]; exact IntWalk.i64_in _ (by omega)
      have w2' : IntKind.i64.wrap (z * ((a : Int) + 1)) = P2 := by rw [← hP2]; exact IntWalk.i64_in _ (by omega)
      have hbd := loZ_bound pre
      have hT := (k3.below hb1 k3.lt)
      have hS := (k2.below hb1 k2.lt)
      have hT0 := hT.cell 0
      have hS0 := hS.cell 0
      simp at hT0 hS0
      have hloT : loT ((p : Int), z) = min P1 P2 := by unfold loT; dsimp only; rw [hA, hlb, hP1, hP2]
      have hhiT : hiT ((p : Int), z) = max P1 P2 := by unfold hiT; dsimp only; rw [hA, hlb, hP1, hP2]
      have wl : IntKind.i64.wrap (loZ pre + min P1 P2) = loZ pre + min P1 P2 := IntWalk.i64_in _ (by omega)
      have wh : IntKind.i64.wrap (hiZ pre + max P1 P2) = hiZ pre + max P1 P2 := IntWalk.i64_in _ (by omega)
      clear hP1 hP2
      refine region_round (T := (fun w' => w'.cell? ⟨w.heap.size + 1 + 1 + 1, 0, Option.none⟩ = some (.int .i64 (hiZ pre)))) (D := [19]) (S := (fun w' => w'.cell? ⟨w.heap.size + 1 + 1, 0, Option.none⟩ = some (.int .i64 (loZ pre)))) (E := [18, 19]) (by kernel_rfl) (by kernel_rfl) (fun ⟨_, _, h⟩ => h) ?_ (fun hHeld => ?_)
      · exact ⟨hT0, hS0⟩
      have hfr1 := hS.free 0
      have hfr2 := hT.free 0
      refine anyE_loadD (i := 0) (d := some 48) (oi := _) (v := ?ev71) rfl rfl (by kernel_rfl) (by kernel_rfl) (by kernel_rfl) (by kernel_rfl) (fun _ _ _ h => h) (Or.inl ⟨by rfl, ?eh71⟩) (by assumption) ?er71
      case eh71 => (intro w hSw; (try dsimp only at hSw); go_simp; try (with_reducible rfl))
      try simp only [Act.put, List.setIfInBounds_toArray, List.set_cons_zero, List.set_cons_succ]
      refine anyE_easyD (i := 1) (d := some 49) (oi := _) (v := ?ev72) rfl rfl (by kernel_rfl) (by kernel_rfl) (by kernel_rfl) (fun _ _ _ h => h) (Or.inl ⟨by rfl, ?eh72⟩) ?er72
      case eh72 => (intro w hSw; (try dsimp only at hSw); go_simp; try (with_reducible rfl))
      try simp only [Act.put, List.setIfInBounds_toArray, List.set_cons_zero, List.set_cons_succ]
      refine anyE_easyD (i := 2) (d := some 50) (oi := _) (v := ?ev73) rfl rfl (by kernel_rfl) (by kernel_rfl) (by kernel_rfl) (fun _ _ _ h => h) (Or.inl ⟨by rfl, ?eh73⟩) ?er73
      case eh73 => (intro w hSw; (try dsimp only at hSw); go_simp; try (with_reducible rfl))
      try simp only [Act.put, List.setIfInBounds_toArray, List.set_cons_zero, List.set_cons_succ]
      refine anyE_easyD (i := 3) (d := some 51) (oi := _) (v := ?ev74) rfl rfl (by kernel_rfl) (by kernel_rfl) (by kernel_rfl) (fun _ _ _ h => h) (Or.inl ⟨by rfl, ?eh74⟩) ?er74
      case eh74 => (intro w hSw; (try dsimp only at hSw); go_simp; try (with_reducible rfl))
      try simp only [Act.put, List.setIfInBounds_toArray, List.set_cons_zero, List.set_cons_succ]
      refine anyE_easyD (i := 4) (d := some 52) (oi := _) (v := ?ev75) rfl rfl (by kernel_rfl) (by kernel_rfl) (by kernel_rfl) (fun _ _ _ h => h) (Or.inl ⟨by rfl, ?eh75⟩) ?er75
      case eh75 => (intro w hSw; (try dsimp only at hSw); go_simp; try (with_reducible rfl))
      try simp only [Act.put, List.setIfInBounds_toArray, List.set_cons_zero, List.set_cons_succ]
      refine anyE_easyD (i := 5) (d := some 53) (oi := _) (v := ?ev76) rfl rfl (by kernel_rfl) (by kernel_rfl) (by kernel_rfl) (fun _ _ _ h => h) (Or.inl ⟨by rfl, ?eh76⟩) ?er76
      case eh76 => (intro w hSw; (try dsimp only at hSw); go_simp; try (with_reducible rfl))
      try simp only [Act.put, List.setIfInBounds_toArray, List.set_cons_zero, List.set_cons_succ]
      refine anyE_easyD (i := 6) (d := some 54) (oi := _) (v := ?ev77) rfl rfl (by kernel_rfl) (by kernel_rfl) (by kernel_rfl) (fun _ _ _ h => h) (Or.inl ⟨by rfl, ?eh77⟩) ?er77
      case eh77 => (intro w hSw; (try dsimp only at hSw); go_simp; try (with_reducible rfl))
      try simp only [Act.put, List.setIfInBounds_toArray, List.set_cons_zero, List.set_cons_succ]
      refine anyE_easyD (i := 7) (d := some 55) (oi := _) (v := ?ev78) rfl rfl (by kernel_rfl) (by kernel_rfl) (by kernel_rfl) (fun _ _ _ h => h) (Or.inl ⟨by rfl, ?eh78⟩) ?er78
      case eh78 => (intro w hSw; (try dsimp only at hSw); go_simp; try (with_reducible rfl))
      try simp only [Act.put, List.setIfInBounds_toArray, List.set_cons_zero, List.set_cons_succ]
      refine anyE_easyD (i := 8) (d := some 56) (oi := _) (v := ?ev79) rfl rfl (by kernel_rfl) (by kernel_rfl) (by kernel_rfl) (fun _ _ _ h => h) (Or.inl ⟨by rfl, ?eh79⟩) ?er79
      case eh79 => (intro w hSw; (try dsimp only at hSw); go_simp; try (with_reducible rfl))
      try simp only [Act.put, List.setIfInBounds_toArray, List.set_cons_zero, List.set_cons_succ]
      refine anyE_heldD (i := 9) (d := some 57) (oi := _) (v := ?ev80) rfl rfl (by kernel_rfl) (by kernel_rfl) (by kernel_rfl) (by kernel_rfl) (fun _ _ _ h => h) (Or.inl ⟨by rfl, ?eh80⟩) (by first | exact hHeld | exact And.left hHeld) ?er80
      case eh80 => (intro w hSw; (try dsimp only at hSw); go_simp; try (with_reducible rfl))
      try simp only [Act.put, List.setIfInBounds_toArray, List.set_cons_zero, List.set_cons_succ]
      refine anyE_easyD (i := 10) (d := some 58) (oi := _) (v := ?ev81) rfl rfl (by kernel_rfl) (by kernel_rfl) (by kernel_rfl) (fun _ _ _ h => h) (Or.inl ⟨by rfl, ?eh81⟩) ?er81
      case eh81 => (intro w hSw; (try dsimp only at hSw); go_simp; try (with_reducible rfl))
      try simp only [Act.put, List.setIfInBounds_toArray, List.set_cons_zero, List.set_cons_succ]
      refine anyE_easyD (i := 11) (d := some 59) (oi := _) (v := ?ev82) rfl rfl (by kernel_rfl) (by kernel_rfl) (by kernel_rfl) (fun _ _ _ h => h) (Or.inl ⟨by rfl, ?eh82⟩) ?er82
      case eh82 => (intro w hSw; (try dsimp only at hSw); go_simp; try (with_reducible rfl))
      try simp only [Act.put, List.setIfInBounds_toArray, List.set_cons_zero, List.set_cons_succ]
      refine anyE_easyD (i := 12) (d := some 60) (oi := _) (v := ?ev83) rfl rfl (by kernel_rfl) (by kernel_rfl) (by kernel_rfl) (fun _ _ _ h => h) (Or.inl ⟨by rfl, ?eh83⟩) ?er83
      case eh83 => (intro w hSw; (try dsimp only at hSw); go_simp; try (with_reducible rfl))
      try simp only [Act.put, List.setIfInBounds_toArray, List.set_cons_zero, List.set_cons_succ]
      refine anyE_easyD (i := 13) (d := some 61) (oi := _) (v := ?ev84) rfl rfl (by kernel_rfl) (by kernel_rfl) (by kernel_rfl) (fun _ _ _ h => h) (Or.inl ⟨by rfl, ?eh84⟩) ?er84
      case eh84 => (intro w hSw; (try dsimp only at hSw); go_simp; try (with_reducible rfl))
      try simp only [Act.put, List.setIfInBounds_toArray, List.set_cons_zero, List.set_cons_succ]
      refine anyE_easyD (i := 14) (d := some 62) (oi := _) (v := ?ev85) rfl rfl (by kernel_rfl) (by kernel_rfl) (by kernel_rfl) (fun _ _ _ h => h) (Or.inl ⟨by rfl, ?eh85⟩) ?er85
      case eh85 => (intro w hSw; (try dsimp only at hSw); go_simp; try (with_reducible rfl))
      try simp only [Act.put, List.setIfInBounds_toArray, List.set_cons_zero, List.set_cons_succ]
      refine anyE_easyD (i := 15) (d := some 63) (oi := _) (v := ?ev86) rfl rfl (by kernel_rfl) (by kernel_rfl) (by kernel_rfl) (fun _ _ _ h => h) (Or.inl ⟨by rfl, ?eh86⟩) ?er86
      case eh86 => (intro w hSw; (try dsimp only at hSw); go_simp; try (with_reducible rfl))
      try simp only [Act.put, List.setIfInBounds_toArray, List.set_cons_zero, List.set_cons_succ]
      refine anyE_easyD (i := 16) (d := some 64) (oi := _) (v := ?ev87) rfl rfl (by kernel_rfl) (by kernel_rfl) (by kernel_rfl) (fun _ _ _ h => h) (Or.inl ⟨by rfl, ?eh87⟩) ?er87
      case eh87 => (intro w hSw; (try dsimp only at hSw); go_simp; try (with_reducible rfl))
      try simp only [Act.put, List.setIfInBounds_toArray, List.set_cons_zero, List.set_cons_succ]
      refine anyE_easyD (i := 17) (d := some 65) (oi := _) (v := ?ev88) rfl rfl (by kernel_rfl) (by kernel_rfl) (by kernel_rfl) (fun _ _ _ h => h) (Or.inl ⟨by rfl, ?eh88⟩) ?er88
      case eh88 => (intro w hSw; (try dsimp only at hSw); go_simp; try (with_reducible rfl))
      try simp only [Act.put, List.setIfInBounds_toArray, List.set_cons_zero, List.set_cons_succ]
      refine anyE_lastD (i := 18) (o := _) (d := Option.none) (by kernel_rfl) rfl rfl (by decide) (fun K hK => ?_)
      go_simp
      refine hK.out _ _ ?_ (fun hHeld => ?_)
      · exact cell_set_far hHeld.1 (by show w.heap.size + 1 + 1 + 1 ≠ w.heap.size + 1 + 1; omega)
      have hT' := hT.far (p := ⟨w.heap.size + 1 + 1, 0, Option.none⟩) (by show w.heap.size + 1 + 1 + 1 ≠ w.heap.size + 1 + 1; omega) (.int .i64 (loZ pre + min P1 P2))
      have hc0 := hT'.cell 0
      have hf0 := hT'.free 0
      refine anyE_endD (i := 19) (o := _) (d := Option.none) (by kernel_rfl) rfl rfl (by decide) (by decide) (fun K hK => ?_)
      go_simp
      refine hK.out _ _ ?_
      refine anyE_done (by kernel_rfl) ?_ _
      gi_wp2
      have hbk : Below w.heap.size W ((w1.drew.setCell ⟨w.heap.size + 1 + 1, 0, Option.none⟩ (.int .i64 (loZ pre + min P1 P2))).setCell ⟨w.heap.size + 1 + 1 + 1, 0, Option.none⟩ (.int .i64 (hiZ pre + max P1 P2))) := (((hb1.mono hB.size).drew).setCell (by show w.heap.size ≤ w.heap.size + 1 + 1; omega) _).setCell (by show w.heap.size ≤ w.heap.size + 1 + 1 + 1; omega) _
      refine ⟨?_, ⟨hbk, ?_⟩, ⟨?_, ?_, ?_, ?_⟩, hB.trans hbk⟩
      · exact ((keeps_below hb1 _).trans ((KeepsOthers.drew _).from _)).trans (((KeepsOthers.setCell _ _ _).from _).trans ((KeepsOthers.setCell _ _ _).from _))
      · intro xs hc
        exact (((hc.below hb1 hc.lt).drew).far (by show _ ≠ w.heap.size + 1 + 1; omega) _).far (by show _ ≠ w.heap.size + 1 + 1 + 1; omega) _
      · exact (((k1.below hb1 k1.lt).drew).far (by show _ ≠ w.heap.size + 1 + 1; omega) _).far (by show _ ≠ w.heap.size + 1 + 1 + 1; omega) _
      · have h := (((k2.below hb1 k2.lt).drew).set 0 (.int .i64 (loZ pre + min P1 P2))).far (p := ⟨w.heap.size + 1 + 1 + 1, 0, Option.none⟩) (by show _ ≠ w.heap.size + 1 + 1 + 1; omega) (.int .i64 (hiZ pre + max P1 P2))
        rw [loZ_snoc, hpe, hze, hloT]
        exact h
      · have h := (((k3.below hb1 k3.lt).drew).far (p := ⟨w.heap.size + 1 + 1, 0, Option.none⟩) (by show _ ≠ w.heap.size + 1 + 1; omega) (.int .i64 (loZ pre + min P1 P2))).set 0 (.int .i64 (hiZ pre + max P1 P2))
        rw [hiZ_snoc, hpe, hze, hhiT]
        exact h
      · exact (((k4.below hb1 k4.lt).drew).far (by show _ ≠ w.heap.size + 1 + 1; omega) _).far (by show _ ≠ w.heap.size + 1 + 1 + 1; omega) _
  case done =>
    rintro D ys W hD rfl ⟨⟨k1, k2, k3, k4⟩, hB⟩ hKD
    have q2 := k2.cell 0
    have q3 := k3.cell 0
    simp at q2 q3
    have f2 := k2.free 0
    have f3 := k3.free 0
    have f4 := k4.free 0
    have q4 := k4.cell 0
    simp at q4
    have K2 := Lib.hid k2
    have K3 := Lib.hid k3
    have K4 := Lib.hid k4
    gi_wp2
    refine wpIn_wide.2 (wp_region_noPanic ?_)
    refine region_E (T := (fun w' => w'.cell? ⟨w.heap.size + 1 + 1, 0, Option.none⟩ = some (.int .i64 (loZ ys)) ∧ w'.cell? ⟨w.heap.size + 1 + 1 + 1, 0, Option.none⟩ = some (.int .i64 (hiZ ys)))) (D := []) (S := (fun _ => True)) (E := []) (by kernel_rfl) ?_ (fun hHeld => ?_)
    · exact ⟨⟨q2, q3⟩, trivial⟩
    refine anyE_heldD (i := 0) (d := some 66) (oi := _) (v := ?ev92) rfl rfl (by kernel_rfl) (by kernel_rfl) (by kernel_rfl) (by kernel_rfl) (fun _ _ _ h => h) (Or.inl ⟨by rfl, ?eh92⟩) (by first | exact hHeld | exact And.left hHeld) ?er92
    case eh92 => (intro w hSw; (try dsimp only at hSw); go_simp; try (with_reducible rfl))
    try simp only [Act.put, List.setIfInBounds_toArray, List.set_cons_zero, List.set_cons_succ]
    refine anyE_heldD (i := 1) (d := some 67) (oi := _) (v := ?ev93) rfl rfl (by kernel_rfl) (by kernel_rfl) (by kernel_rfl) (by kernel_rfl) (fun _ _ _ h => h) (Or.inl ⟨by rfl, ?eh93⟩) (by first | exact hHeld | exact And.left hHeld) ?er93
    case eh93 => (intro w hSw; (try dsimp only at hSw); go_simp; try (with_reducible rfl))
    try simp only [Act.put, List.setIfInBounds_toArray, List.set_cons_zero, List.set_cons_succ]
    refine anyE_oneD (i := 2) (o := _) (d := Option.none) (by kernel_rfl) rfl rfl (fun K hK => ?_)
    go_simp
    have H2a := (K2.out.drew).set 0 (.int .i64 (loZ ys))
    have H3a := (K3.out.drew).far (p := ⟨w.heap.size + 1 + 1, 0, Option.none⟩) (by show w.heap.size + 1 + 1 + 1 ≠ w.heap.size + 1 + 1; omega) (.int .i64 (loZ ys))
    have H4a := (K4.out.drew).far (p := ⟨w.heap.size + 1 + 1, 0, Option.none⟩) (by show w.heap.size + 1 + 1 + 1 + 1 ≠ w.heap.size + 1 + 1; omega) (.int .i64 (loZ ys))
    have x1 := H2a.cell 0
    have x2 := H3a.cell 0
    have x3 := H3a.free 0
    refine hK.out _ _ ?_ (fun hHeld => ?_)
    · exact ⟨⟨x1, x2⟩, trivial⟩
    refine anyE_oneD (i := 3) (o := _) (d := Option.none) (by kernel_rfl) rfl rfl (fun K hK => ?_)
    go_simp
    have H2b := H2a.far (p := ⟨w.heap.size + 1 + 1 + 1, 0, Option.none⟩) (by show w.heap.size + 1 + 1 ≠ w.heap.size + 1 + 1 + 1; omega) (.int .i64 (hiZ ys))
    have H3b := H3a.set 0 (.int .i64 (hiZ ys))
    have H4b := H4a.far (p := ⟨w.heap.size + 1 + 1 + 1, 0, Option.none⟩) (by show w.heap.size + 1 + 1 + 1 + 1 ≠ w.heap.size + 1 + 1 + 1; omega) (.int .i64 (hiZ ys))
    have y1 := H2b.cell 0
    have y2 := H3b.cell 0
    have y3 := H4b.free 0
    have y4 := H4b.cell 0
    refine hK.out _ _ ?_ (fun hHeld => ?_)
    · exact ⟨⟨y1, y2⟩, trivial⟩
    refine anyE_oneD (i := 4) (o := _) (d := Option.none) (by kernel_rfl) rfl rfl (fun K hK => ?_)
    go_simp
    have H2c := H2b.far (p := ⟨w.heap.size + 1 + 1 + 1 + 1, 0, Option.none⟩) (by show w.heap.size + 1 + 1 ≠ w.heap.size + 1 + 1 + 1 + 1; omega) (.bool true)
    have H3c := H3b.far (p := ⟨w.heap.size + 1 + 1 + 1 + 1, 0, Option.none⟩) (by show w.heap.size + 1 + 1 + 1 ≠ w.heap.size + 1 + 1 + 1 + 1; omega) (.bool true)
    have H4c := H4b.set 0 (.bool true)
    have z1 := H2c.cell 0
    have z2 := H3c.cell 0
    have z3 := H4c.cell 0
    refine hK.out _ _ ?_ (fun hHeld => ?_)
    · exact ⟨⟨z1, z2⟩, trivial⟩
    refine anyE_done (by kernel_rfl) ?_ _
    refine NoPanic.normal ?_
    gi_wp2
    have hk9 := (((KeepsOthers.drew W).trans (KeepsOthers.setCell _ ⟨w.heap.size + 1 + 1, 0, Option.none⟩ (.int .i64 (loZ ys)))).trans ((KeepsOthers.setCell _ ⟨w.heap.size + 1 + 1 + 1, 0, Option.none⟩ (.int .i64 (hiZ ys))).trans (KeepsOthers.setCell _ ⟨w.heap.size + 1 + 1 + 1 + 1, 0, Option.none⟩ (.bool true)))).same D _ hKD rfl
    have hB9 := (((hB.drew).setCell (p := ⟨w.heap.size + 1 + 1, 0, Option.none⟩) (by show w.heap.size ≤ w.heap.size + 1 + 1; omega) (.int .i64 (loZ ys))).setCell (p := ⟨w.heap.size + 1 + 1 + 1, 0, Option.none⟩) (by show w.heap.size ≤ w.heap.size + 1 + 1 + 1; omega) (.int .i64 (hiZ ys))).setCell (p := ⟨w.heap.size + 1 + 1 + 1 + 1, 0, Option.none⟩) (by show w.heap.size ≤ w.heap.size + 1 + 1 + 1 + 1; omega) (.bool true)
    refine ⟨by simp, .inl ⟨_, _, rfl, run_takeDeferred hk9, ?_⟩⟩
    have hkk : ∀ {B : Nat} {t : TypeId} {xs : List Value}, Cells ((((W.drew).setCell ⟨w.heap.size + 1 + 1, 0, Option.none⟩ (.int .i64 (loZ ys))).setCell ⟨w.heap.size + 1 + 1 + 1, 0, Option.none⟩ (.int .i64 (hiZ ys))).setCell ⟨w.heap.size + 1 + 1 + 1 + 1, 0, Option.none⟩ (.bool true)) B t xs → Cells (((((W.setCell ⟨w.heap.size + 1 + 1, 0, Option.none⟩ (.int .i64 (loZ ys))).setCell ⟨w.heap.size + 1 + 1 + 1, 0, Option.none⟩ (.int .i64 (hiZ ys))).setCell ⟨w.heap.size + 1 + 1 + 1 + 1, 0, Option.none⟩ (.bool true)).drew).putObj D (.deferred Option.none)) B t xs := fun h => cells_kept h (grownBy_putObj' _ D (.deferred Option.none)) (fun r e => by cases e; exact ⟨_, hk9, rfl⟩)
    have u1 := (hkk H2c).cell 0
    have u2 := (hkk H3c).cell 0
    have u3 := (hkk H4c).cell 0
    simp at u1 u2 u3
    refine ⟨_, ?_, rfl, hB9.trans (belowK_b (w := w) (Nat.le_refl _) _ D _ _ (by have := hB0.size; omega) hk9 rfl rfl)⟩
    simp (maxDischargeDepth := 10) [results, Tryz.results237, go_sem, u1, u2, u3]
  case stop =>
    rintro D c pre W _ _ h _
    exact h.elim

end Go.Proofs.YteenfcmnmenigaaGreatDoor
