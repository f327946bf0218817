/- target.Weigh: lists of targets; the weights are short. target.Weigh. damage.Check of right targets. -/
import Derived.Test.YtcfkclafpbaagaaGreatDoorGTO
import Derived.Test.YtcfkclafpbaagaaGreatDoorGTJ
import Derived.Test.YtcfkclafpbaagaaGreatDoorGE
import Derived.Deep.RegionLawGrows
import Derived.Deep.AppendLies
import Derived.Test.YtcfkclafpbaagaaGreatDoorGTN
import Derived.Test.YtcfkclafpbaagaaGreatDoorFSgG
import Derived.Test.YtcfkclafpbaagaaGreatDoorGYa
namespace Go.Proofs.YtcfkclafpbaagaaGreatDoor
open Go.RowKit Go.Lib Go.Shelf

/-! The weights. -/
theorem pp_le {p : List Int} {f g : Nat → Nat} (hp : ∀ k, k < p.length → 2 ≤ p[k]?.getD 0) (h : ∀ i, f i ≤ g i) : ∀ n, n ≤ p.length → pp p f 0 n ≤ pp p g 0 n
  | 0, _ => Nat.le_refl _
  | n + 1, hn => by
    have ih := pp_le hp h n (by omega)
    have h2 := hp n (by omega)
    rw [pp, pp, Nat.zero_add]
    exact Nat.mul_le_mul ih (Nat.pow_le_pow_right (by omega) (h n))
theorem pp_tab : ∀ k, k < 10 → pp (primeTable.getD k []) (fun _ => 9) 0 (primeTable.getD k []).length < 10 ^ 30 := by decide +kernel
theorem prod_small {n : Nat} {x : List Int} (hx : x.length = (primesOf n).length) (h9 : ∀ i : Nat, (x[i]?.getD 0).natAbs ≤ 9) : (decDigits (num (primesOf n) x * den (primesOf n) x)).length ≤ 30 := by
  have hge := fun k hk => ((right_primes (primesOf_ok n).1).2.2 k hk).1
  have h1 : num (primesOf n) x * den (primesOf n) x ≤ pp (primesOf n) (fun _ => 9) 0 (primesOf n).length := by
    rw [num_pp hx, den_pp hx, ← pp_add]
    exact pp_le hge (fun i => by have := h9 i; unfold upE downE; omega) _ (Nat.le_refl _)
  have h2 : pp (primesOf n) (fun _ => 9) 0 (primesOf n).length < 10 ^ 30 := pp_tab _ (Nat.mod_lt _ (by omega))
  rw [dec_length]
  exact nDigits_le (by omega) (Nat.lt_of_le_of_lt h1 h2)
/-- A weight's denominator. -/
def wtD (p : List Int) (k : Int) (x : List Int) : List UInt8 := if k = 2 then decDigits (num p x * den p x) else [49]

/-! Lists of targets. -/
def tfl : List (Value × List UInt8) → List Value
  | [] => []
  | t :: l => t.1 :: .string ⟨#[49]⟩ :: .string ⟨t.2.toArray⟩ :: tfl l
theorem tfl_len : ∀ l, (tfl l).length = l.length * 3
  | [] => rfl
  | t :: l => by rw [tfl, List.length_cons, List.length_cons, List.length_cons, tfl_len l, List.length_cons]; omega
theorem tfl_app : ∀ l m, tfl (l ++ m) = tfl l ++ tfl m
  | [], _ => rfl
  | t :: l, m => by rw [List.cons_append, tfl, tfl_app l m, tfl]; rfl
theorem tfl_get : ∀ (l : List (Value × List UInt8)) (k : Nat) (t : Value × List UInt8), l[k]? = some t → (tfl l)[k * 3]? = some t.1 ∧ (tfl l)[k * 3 + 1]? = some (.string ⟨#[49]⟩) ∧ (tfl l)[k * 3 + 2]? = some (.string ⟨t.2.toArray⟩)
  | [], k, t, h => by simp at h
  | s :: l, 0, t, h => by simp at h; subst h; exact ⟨rfl, rfl, rfl⟩
  | s :: l, k + 1, t, h => by
    obtain ⟨h1, h2, h3⟩ := tfl_get l k t (by simpa using h)
    rw [show (k + 1) * 3 = k * 3 + 3 by omega]
    exact ⟨h1, h2, h3⟩

/-- A growing list of targets of its own. -/
def TOwn (w : World) (base : Nat) (v : Value) (l : List (List Int)) (d : List Int → List UInt8) : Prop :=
  ∃ ts : List (Value × List UInt8), w.ownsRow base 71 3 v l.length (tfl ts) ∧ ∀ (j : Nat) (x : List Int), l[j]? = some x → ∃ u, ts[j]? = some (u, d x) ∧ ORow w u x
/-- A list of targets to be read. -/
def TAt (w : World) (A : Option Addr) (l : List (List Int)) (d : List Int → List UInt8) : Prop := ∀ (k : Nat) (x : List Int), l[k]? = some x → ∃ b o u, A = some ⟨b, o, Option.none⟩ ∧ b < w.heap.size ∧ w.cell? ⟨b, o + k * 3, Option.none⟩ = some u ∧ w.cell? ⟨b, o + k * 3 + 1, Option.none⟩ = some (.string ⟨#[49]⟩) ∧ w.cell? ⟨b, o + k * 3 + 2, Option.none⟩ = some (.string ⟨(d x).toArray⟩) ∧ IsRow w w.heap.size u x
theorem TAt.lift {w w' : World} {A : Option Addr} {l : List (List Int)} {d : List Int → List UInt8} (h : TAt w A l d) (hb : Below w.heap.size w w') : TAt w' A l d := fun k x hx => by
  obtain ⟨b, o, u, e, h1, h2, h3, h4, h5⟩ := h k x hx
  exact ⟨b, o, u, e, Nat.lt_of_lt_of_le h1 hb.size, (hb.cell (p := ⟨b, o + k * 3, Option.none⟩) h1).trans h2, (hb.cell (p := ⟨b, o + k * 3 + 1, Option.none⟩) h1).trans h3, (hb.cell (p := ⟨b, o + k * 3 + 2, Option.none⟩) h1).trans h4, h5.lift hb⟩
theorem TOwn.nil (w : World) (base : Nat) (d : List Int → List UInt8) : TOwn w base (.slice Option.none 0 0) [] d := ⟨[], World.ownsRow_nil _ _ _ _, fun j x h => by simp at h⟩
theorem TOwn.below {w w' : World} {base : Nat} {v : Value} {l : List (List Int)} {d : List Int → List UInt8} (h : TOwn w base v l d) (hb : Below w.heap.size w w') : TOwn w' base v l d := by
  obtain ⟨ts, h1, h2⟩ := h
  exact ⟨ts, own_below h1 hb, fun j x hj => by obtain ⟨u, h3, h4⟩ := h2 j x hj; exact ⟨u, h3, h4.below hb⟩⟩
theorem TOwn.blk {w : World} {base : Nat} {v : Value} {l : List (List Int)} {d : List Int → List UInt8} (h : TOwn w base v l d) : ∀ j, v.ownBlock = some j → j < w.heap.size := by
  obtain ⟨ts, h1, _⟩ := h
  exact fun j hj => (h1.lt j hj).2
theorem TOwn.shape {w : World} {base : Nat} {v : Value} {l : List (List Int)} {d : List Int → List UInt8} (h : TOwn w base v l d) : ∃ A c, v = .slice A l.length c ∧ TAt w A l d := by
  obtain ⟨ts, h1, h2⟩ := h
  have htl : ts.length = l.length := by have := h1.1; rw [tfl_len] at this; omega
  rcases h1.2 with ⟨rfl, h0⟩ | ⟨g, cap, cur, rfl, _, hg, hc1, hc2, hc3, hc4⟩
  · refine ⟨Option.none, 0, by rw [h0], fun k x hx => ?_⟩
    have := (List.getElem?_eq_some_iff.1 hx).1
    omega
  · refine ⟨_, _, rfl, fun k x hx => ?_⟩
    obtain ⟨u, h3, h4⟩ := h2 k x hx
    obtain ⟨t0, t1, t2⟩ := tfl_get ts k _ h3
    have hlt : g < w.heap.size := (Array.getElem?_eq_some_iff.1 hg).1
    have cell : ∀ (i : Nat) (z : Value), (tfl ts)[i]? = some z → w.cell? ⟨g, 0 + i, Option.none⟩ = some z := fun i z hz => by
      rw [← hc4, List.getElem?_take] at hz
      split at hz
      · rw [Nat.zero_add]
        unfold World.cell?
        simp only [hg]
        simpa using hz
      · cases hz
    exact ⟨g, 0, u, rfl, hlt, cell _ _ t0, cell _ _ t1, cell _ _ t2, h4.row⟩
theorem TOwn.snoc {w w' : World} {base : Nat} {v v' u : Value} {l : List (List Int)} {x : List Int} {d : List Int → List UInt8} {ts : List (Value × List UInt8)} (h1 : w.ownsRow base 71 3 v l.length (tfl ts)) (h2 : ∀ (j : Nat) (x : List Int), l[j]? = some x → ∃ u, ts[j]? = some (u, d x) ∧ ORow w u x) (hx : ORow w u x)
    (hown : w'.ownsRow base 71 3 v' (l.length + 1) (tfl ts ++ tfl [(u, d x)])) (hg : w.grownBy w' v.ownBlock) : TOwn w' base v' (l ++ [x]) d := by
  have htl : ts.length = l.length := by have := h1.1; rw [tfl_len] at this; omega
  refine ⟨ts ++ [(u, d x)], by rw [List.length_append, tfl_app]; exact hown, fun j y hj => ?_⟩
  by_cases hjl : j < l.length
  · rw [List.getElem?_append_left hjl] at hj
    obtain ⟨u2, h3, h4⟩ := h2 j y hj
    exact ⟨u2, by rw [List.getElem?_append_left (by omega)]; exact h3, h4.grown h1 (by decide) hg⟩
  · rw [List.getElem?_append_right (by omega)] at hj
    have hj0 : j - l.length = 0 := by
      obtain ⟨hlt, _⟩ := List.getElem?_eq_some_iff.1 hj
      simpa using hlt
    rw [hj0] at hj
    cases hj
    exact ⟨u, by rw [List.getElem?_append_right (by omega), htl, hj0]; rfl, hx.grown h1 (by decide) hg⟩
theorem Tryz.info_target : (Tryz.prog.info? 71).map (fun i => (i.zero, i.size, i.bytes)) = some (some (.agg #[.slice Option.none 0 0, .string ⟨#[]⟩, .string ⟨#[]⟩]), 3, 56) := by kernel_rfl

end Go.Proofs.YtcfkclafpbaagaaGreatDoor

namespace Go.Proofs.YtcfkclafpbaagaaGreatDoor
open Go.RowKit Go.Lib Go.Shelf

theorem weigh_kind (pv : Value) (p : List Int) (A : Option Addr) (c : Nat) (l : List (List Int)) (k : Int) (w : World) (hp : IsRow w w.heap.size pv p) (hl : RowsAt w w.heap.size A l) (hlm : l.length ≤ 600) (hv : lstErr p l = 0) (h1 : (k != 1) = true) (h2 : (k != 2) = true) :
    Calls Tryz.prog 33 #[pv, .slice A l.length c, .int .i64 k] w fun e w' => e = .returned (.tuple #[.slice Option.none 0 0, .int .i64 12]) ∧ w = w' := by
  have HCL := Lib.hid (checkList_any pv p A c l w hp hl (by omega))
  rw [hv] at HCL
  obtain ⟨AP, cp, rfl⟩ := hp.shape
  clear hp hl hlm hv
  go_enter Tryz.func33, Tryz.ntmps33
  go_wp2_with (go_at_call 45; refine HCL.out.mono ?_; rintro e w1 ⟨rfl, rfl⟩)
  go_ret2
  exact ⟨rfl, rfl⟩
theorem weigh_many (pv : Value) (p : List Int) (A : Option Addr) (c : Nat) (l : List (List Int)) (k : Int) (w : World) (hp : IsRow w w.heap.size pv p) (hl : RowsAt w w.heap.size A l) (hlm : l.length ≤ 600) (hv : lstErr p l = 0) (hk : k = 1 ∨ k = 2) (hn : 60 < l.length) :
    Calls Tryz.prog 33 #[pv, .slice A l.length c, .int .i64 k] w fun e w' => e = .returned (.tuple #[.slice Option.none 0 0, .int .i64 4]) ∧ w = w' := by
  have HCL := Lib.hid (checkList_any pv p A c l w hp hl (by omega))
  rw [hv] at HCL
  obtain ⟨AP, cp, rfl⟩ := hp.shape
  have d60 : decide ((60 : Int) < (l.length : Int)) = true := by rw [decide_eq_true_iff]; omega
  clear hp hl hlm hv
  rcases hk with rfl | rfl
  all_goals
    go_enter Tryz.func33, Tryz.ntmps33
    go_wp2_with (go_at_call 45; refine HCL.out.mono ?_; rintro e w1 ⟨rfl, rfl⟩)
    go_ret2
    exact ⟨rfl, rfl⟩
theorem own_formI {w : World} {base n : Nat} {v : Value} {xs : List Value} (h : w.ownsRow base 3 1 v n xs) (hn : 0 < n) : ∃ g c, v = .slice (some ⟨g, 0, Option.none⟩) n c := by
  rcases h.2 with ⟨_, h0⟩ | ⟨g, cap, cur, rfl, _⟩
  · omega
  · exact ⟨g, cap, rfl⟩

set_option maxRecDepth 100000 in
set_option maxHeartbeats 8000000 in
theorem weigh_ok1 (pv : Value) (p : List Int) (A : Option Addr) (c : Nat) (l : List (List Int)) (w : World) (hS : Std w) (hp : IsRow w w.heap.size pv p) (hpe : primeErr p = 0) (hl : RowsAt w w.heap.size A l) (hz : ∀ x ∈ l, chkAll p [x] = 0) (hn : l.length ≤ 60) (hd : ∀ x ∈ l, (decDigits (num p x * den p x)).length ≤ 30) :
    Calls Tryz.prog 33 #[pv, .slice A l.length c, .int .i64 1] w fun e w' => (∃ v, e = .returned (.tuple #[v, .int .i64 0]) ∧ ∃ B c', v = .slice B l.length c' ∧ TAt w' B l (wtD p 1)) ∧ Below w.heap.size w w' := by
  obtain ⟨i0, hi0, hz0, hz1, hz2⟩ := info_parts Tryz.info_target
  obtain ⟨j0, hj0, gz0, gz1, gz2⟩ := info_parts Tryz.info_int
  have HCL := Lib.hid (checkList_any pv p A c l w hp hl (by omega))
  have hv : lstErr p l = 0 := by unfold lstErr; rw [if_neg (by simp [hpe]), if_neg (by omega)]; exact chk_all hpe hz
  rw [hv] at HCL
  have HS := Lib.hid hS
  have HP := Lib.hid hp
  have HL := Lib.hid hl
  have HZ : Box (∀ x ∈ l, chkAll p [x] = 0) := ⟨hz⟩
  have HD : Box (∀ x ∈ l, (decDigits (num p x * den p x)).length ≤ 30) := ⟨hd⟩
  have HPL : Box (1 ≤ p.length) := ⟨(right_primes hpe).2.1⟩
  have HP6 : Box (p.length ≤ 6) := ⟨(right_primes hpe).1⟩
  have d60 : decide ((60 : Int) < (l.length : Int)) = false := by rw [decide_eq_false_iff_not]; omega
  obtain ⟨AP, cp, rfl⟩ := hp.shape
  clear hS hp hl hz hd hpe hv
  go_enter Tryz.func33, Tryz.ntmps33
  go_wp2_with fail
  refine HCL.out.mono ?_
  rintro e w1 ⟨rfl, rfl⟩
  clear HCL
  go_wp2_with fail
  go_loopw [9, 32] (fun o i wr => ∃ k : Nat, k ≤ l.length ∧ i = .int .i64 k ∧ Hid (TOwn wr w.heap.size o (l.take k) (wtD p 1)) ∧ Below w.heap.size w wr) (fun _ i _ => l.length - (intOf i).toNat)
  case atStart => exact ⟨0, Nat.zero_le _, rfl, Lib.hid (TOwn.nil _ _ _), Below.refl _ _⟩
  case round =>
    obtain ⟨k, hk, rfl, HT, hbw⟩ := hrel
    by_cases hlt : k < l.length
    · obtain ⟨b, o, u, rfl, hab, hca, hru⟩ := rows_plain HL.out (List.getElem?_eq_getElem hlt)
      have hca2 := (hbw.cell (p := ⟨b, o + k, Option.none⟩) hab).trans hca
      have hmem := List.getElem_mem hlt
      have HTK := Lib.hid (show l.take (k + 1) = l.take k ++ [l[k]] from (List.take_append_getElem hlt).symm)
      have hlk : (l.take k).length = k := by rw [List.length_take]; omega
      have HLK := Lib.hid hlk
      have hcx := HZ.out _ hmem
      have hdx := HD.out _ hmem
      have hxl : l[k].length = p.length := (right_of hcx).len
      generalize l[k] = x at *
      have HX := Lib.hid (hru.lift hbw)
      have HCX := Lib.hid hcx
      have HB := Lib.hid hbw
      have hkn : k ≤ 60 := by omega
      have hk1 : (0 : Int) ≤ (k : Int) := by omega
      have hk2 : (k : Int) < (l.length : Int) := by omega
      have hx1 : 1 ≤ x.length := by rw [hxl]; exact HPL.out
      have hx6 : x.length ≤ 6 := by rw [hxl]; exact HP6.out
      obtain ⟨AX, cx, rfl⟩ := hru.shape
      clear hbw hca hru hlk hmem hcx hxl
      go_wp2_with fail
      obtain ⟨H, hH⟩ : ∃ H, H = wr.heap.size := ⟨_, rfl⟩
      obtain ⟨W, hW⟩ : ∃ W, W = wr.alloc (.cells #[.string ⟨#[49]⟩, .string ⟨#[49]⟩] 53) := ⟨_, rfl⟩
      have hba : Below wr.heap.size wr W := by rw [hW]; exact (Below.refl _ _).alloc (Nat.le_refl _) _
      have hHW : H < W.heap.size := by rw [hW, hH]; simp
      have q0 : W.cell? ⟨H, 0, Option.none⟩ = some (.string ⟨#[49]⟩) := by rw [hW, hH]; exact World.cell?_alloc_new _ _ _ 0
      have q1 : W.cell? ⟨H, 1, Option.none⟩ = some (.string ⟨(wtD p 1 x).toArray⟩) := by rw [hW, hH]; exact World.cell?_alloc_new _ _ _ 1
      have HN9 := HT.out.blk
      rw [← hH] at HN9
      have HX4 := Lib.hid (HX.out.lift hba)
      have HT4 := Lib.hid (HT.out.below hba)
      have HBW := Lib.hid (HB.out.trans (hba.mono HB.out.size))
      rw [← hW, ← hH]
      clear hba hW hH HX HT HB hca2

      obtain ⟨ts, hown, hts⟩ := HT4.out
      rw [HLK.out] at hown
      have HO := Lib.hid hown
      have HTS := Lib.hid hts
      have hrx := HX4.out
      obtain ⟨A', c', e', hxc, hxm, hrx⟩ := hrx
      injection e' with e1 _ e3
      subst e1 e3
      have h0l : 0 < (is x).length := by rw [is_length]; omega
      obtain ⟨adx, rfl, hadx, _⟩ := hrx.get 0 _ (List.getElem?_eq_getElem h0l)
      have hnx : ∀ (i : Nat) (z : Value), (is x)[i]? = some z → W.cell? (adx.add i) = some z := fun i z hz => by
        obtain ⟨ad2, e, _, h4⟩ := hrx.get i z hz
        cases e
        exact h4
      have hnb : ∀ W2, Below W.heap.size W W2 → ∀ (i : Nat) (z : Value), (is x)[i]? = some z → W2.cell? (adx.add i) = some z := fun W2 hb i z hz => (hb.cell (p := adx.add i) (by rw [add_block]; exact hadx)).trans (hnx i z hz)
      have HNB := Lib.hid hnb
      have HW0 : Below W.heap.size W W.drew := below_drew (Below.refl _ _)
      have HWA : Below W.heap.size W (W.alloc (.cells #[] 3)).drew := ((Below.refl _ _).alloc (Nat.le_refl _) _).drew
      have hws : w.heap.size ≤ W.heap.size := HBW.out.size
      have hown1 : ∀ z ∈ is x, z.oneCell' = true := fun z hz => by
        obtain ⟨y, _, rfl⟩ := List.mem_map.1 hz
        rfl
      have hH1 : H < W.heap.size := Nat.lt_of_le_of_lt (Nat.le_refl _) hHW
      clear hown hts hrx hnx hnb
      go_wp2_with fail
      go_region_held3 (fun w' => w'.cell? ⟨H, 0, Option.none⟩ = some (.string ⟨#[49]⟩) ∧ w'.cell? ⟨H, 1, Option.none⟩ = some (.string ⟨(wtD p 1 x).toArray⟩))
        (first | go_keep | (go_split_ands; exact ⟨(hgA.cell_far _ (by simp; omega) (by simp)).trans (by assumption), (hgA.cell_far _ (by simp; omega) (by simp)).trans (by assumption)⟩) | (go_split_ands; exact ⟨(hgB.cell_far _ (by have := HbA.size; simp; omega) (fun e => by have := HN9 _ e.symm; simp at this)).trans (by assumption), (hgB.cell_far _ (by have := HbA.size; simp; omega) (fun e => by have := HN9 _ e.symm; simp at this)).trans (by assumption)⟩))
        ((first
          | (refine step_append_grows (by rfl) _ _ _ (by rfl) 3 j0 _ 1 8 Tryz.underlying28 hj0 gz0 gz1 gz2 rfl (by decide) (some ⟨W.heap.size, 0, Option.none⟩) 0 0 [] (by rfl) (fun e => by cases e) rfl (fun bb e i z hz => by simp at hz) adx x.length cx (is x) (by rfl) (by rw [is_length]; omega) (HNB.out _ HWA) hown1 (by omega) (by unfold maxLen; omega) (by omega) ?_; intro vA wA hownA hgA; rw [Nat.zero_add, List.nil_append] at hownA; obtain ⟨gA, cA, rfl⟩ := own_formI hownA (by omega); have HbA : Below W.heap.size W wA := HWA.grown hgA (by have := HWA.size; omega) (fun j hj => by cases hj); have HO5 := own_below HO.out HbA)
          | (refine step_append_lies _ (by rfl) _ _ _ (by rfl) w.heap.size 71 i0 _ 3 56 Tryz.underlying61 hi0 hz0 hz1 hz2 rfl (by omega) u9 k (tfl ts) (by rfl) (HO5.alloc _) ⟨wA.heap.size, 0, Option.none⟩ 1 1 [.slice (some ⟨gA, 0, Option.none⟩) x.length cA, .string ⟨#[49]⟩, .string ⟨(wtD p 1 x).toArray⟩] (by rfl) (by rfl) (World.news_of_block (cs := #[.slice (some ⟨gA, 0, Option.none⟩) x.length cA, .string ⟨#[49]⟩, .string ⟨(wtD p 1 x).toArray⟩]) (t := 71) (fr := (0, 0)) (heap_alloc_new wA _)) (by simp [Value.oneCell']) (by omega) (by unfold maxLen; omega) (by omega) (by have := HbA.size; simp; omega) (wA.heap.size + 1) (by simp) ?_; intro gB cB wB hownB hgB hatB hltB)
          | fail))
      have HSN : Hid (TOwn wB w.heap.size (.slice (some ⟨gB, 0, Option.none⟩) (k + 1) cB) (l.take (k + 1)) (wtD p 1)) := Lib.hid (by
        rw [HTK.out]
        refine TOwn.snoc (by rw [HLK.out]; exact HO5.alloc _) (fun j y hj => ?_) ((ORow.of_own hownA).alloc (.cells #[.slice (some ⟨gA, 0, Option.none⟩) x.length cA, .string ⟨#[49]⟩, .string ⟨(wtD p 1 x).toArray⟩] 71)) (by rw [HLK.out]; exact hownB) hgB
        obtain ⟨z, h5, h6⟩ := HTS.out j y hj
        exact ⟨z, h5, (h6.below HbA).alloc _⟩)
      have hbz := ((HBW.out.trans (HbA.mono hws)).alloc (by have := HbA.size; omega) (.cells #[.slice (some ⟨gA, 0, Option.none⟩) x.length cA, .string ⟨#[49]⟩, .string ⟨(wtD p 1 x).toArray⟩] 71)).grown hgB (by have := HbA.size; simp; omega) (fun j hj => (HO5.lt j hj).1)
      have HBZ := Lib.hid hbz
      clear hbz hgA hgB hownA hownB HO5 HbA HO HTS HNB HW0 HWA hatB hltB
      go_wp2_with fail
      go_roundw
      case rel => exact ⟨k + 1, by omega, by go_num, HSN, HBZ.out⟩
      case measure => simp [intOf]; omega
    · obtain rfl : k = l.length := by omega
      have hT := HT.out
      rw [List.take_of_length_le (Nat.le_refl _)] at hT
      obtain ⟨B, c', rfl, ht⟩ := hT.shape
      have HTA := Lib.hid ht
      have HB := Lib.hid hbw
      clear hT ht hbw HT
      go_wp2_with fail
      go_ret2
      exact ⟨⟨_, rfl, _, _, rfl, HTA.out⟩, HB.out⟩

set_option maxRecDepth 100000 in
set_option maxHeartbeats 8000000 in
theorem weigh_ok2 (pv : Value) (p : List Int) (A : Option Addr) (c : Nat) (l : List (List Int)) (w : World) (hS : Std w) (hp : IsRow w w.heap.size pv p) (hpe : primeErr p = 0) (hl : RowsAt w w.heap.size A l) (hz : ∀ x ∈ l, chkAll p [x] = 0) (hn : l.length ≤ 60) (hd : ∀ x ∈ l, (decDigits (num p x * den p x)).length ≤ 30) :
    Calls Tryz.prog 33 #[pv, .slice A l.length c, .int .i64 2] w fun e w' => (∃ v, e = .returned (.tuple #[v, .int .i64 0]) ∧ ∃ B c', v = .slice B l.length c' ∧ TAt w' B l (wtD p 2)) ∧ Below w.heap.size w w' := by
  obtain ⟨i0, hi0, hz0, hz1, hz2⟩ := info_parts Tryz.info_target
  obtain ⟨j0, hj0, gz0, gz1, gz2⟩ := info_parts Tryz.info_int
  have HCL := Lib.hid (checkList_any pv p A c l w hp hl (by omega))
  have hv : lstErr p l = 0 := by unfold lstErr; rw [if_neg (by simp [hpe]), if_neg (by omega)]; exact chk_all hpe hz
  rw [hv] at HCL
  have HS := Lib.hid hS
  have HP := Lib.hid hp
  have HL := Lib.hid hl
  have HZ : Box (∀ x ∈ l, chkAll p [x] = 0) := ⟨hz⟩
  have HD : Box (∀ x ∈ l, (decDigits (num p x * den p x)).length ≤ 30) := ⟨hd⟩
  have HPL : Box (1 ≤ p.length) := ⟨(right_primes hpe).2.1⟩
  have HP6 : Box (p.length ≤ 6) := ⟨(right_primes hpe).1⟩
  have d60 : decide ((60 : Int) < (l.length : Int)) = false := by rw [decide_eq_false_iff_not]; omega
  obtain ⟨AP, cp, rfl⟩ := hp.shape
  clear hS hp hl hz hd hpe hv
  go_enter Tryz.func33, Tryz.ntmps33
  go_wp2_with fail
  refine HCL.out.mono ?_
  rintro e w1 ⟨rfl, rfl⟩
  clear HCL
  go_wp2_with fail
  go_loopw [9, 32] (fun o i wr => ∃ k : Nat, k ≤ l.length ∧ i = .int .i64 k ∧ Hid (TOwn wr w.heap.size o (l.take k) (wtD p 2)) ∧ Below w.heap.size w wr) (fun _ i _ => l.length - (intOf i).toNat)
  case atStart => exact ⟨0, Nat.zero_le _, rfl, Lib.hid (TOwn.nil _ _ _), Below.refl _ _⟩
  case round =>
    obtain ⟨k, hk, rfl, HT, hbw⟩ := hrel
    by_cases hlt : k < l.length
    · obtain ⟨b, o, u, rfl, hab, hca, hru⟩ := rows_plain HL.out (List.getElem?_eq_getElem hlt)
      have hca2 := (hbw.cell (p := ⟨b, o + k, Option.none⟩) hab).trans hca
      have hmem := List.getElem_mem hlt
      have HTK := Lib.hid (show l.take (k + 1) = l.take k ++ [l[k]] from (List.take_append_getElem hlt).symm)
      have hlk : (l.take k).length = k := by rw [List.length_take]; omega
      have HLK := Lib.hid hlk
      have hcx := HZ.out _ hmem
      have hdx := HD.out _ hmem
      have hxl : l[k].length = p.length := (right_of hcx).len
      generalize l[k] = x at *
      have HX := Lib.hid (hru.lift hbw)
      have HCX := Lib.hid hcx
      have HB := Lib.hid hbw
      have hkn : k ≤ 60 := by omega
      have hk1 : (0 : Int) ≤ (k : Int) := by omega
      have hk2 : (k : Int) < (l.length : Int) := by omega
      have hx1 : 1 ≤ x.length := by rw [hxl]; exact HPL.out
      have hx6 : x.length ≤ 6 := by rw [hxl]; exact HP6.out
      obtain ⟨AX, cx, rfl⟩ := hru.shape
      clear hbw hca hru hlk hmem hcx hxl
      have HPR := Lib.hid (fun (W2 : World) (hb : Below wr.heap.size wr W2) => product_any (.slice AP p.length cp) (.slice AX x.length cx) p x W2 (HP.out.lift (HB.out.trans (hb.mono HB.out.size))) (HX.out.lift hb) HCX.out (HS.out.below (HB.out.trans (hb.mono HB.out.size)) (Nat.le_refl _)))
      have hso : shortOut (decDigits (num p x * den p x)) = .tuple #[.string ⟨(wtD p 2 x).toArray⟩, .int .i64 0] := by unfold shortOut wtD; rw [if_pos (by omega), if_pos rfl]
      rw [hso] at HPR
      have hwl : (wtD p 2 x).length ≤ 30 := by unfold wtD; rw [if_pos rfl]; exact hdx
      have dwl : decide ((30 : Int) < ((wtD p 2 x).length : Int)) = false := by rw [decide_eq_false_iff_not]; omega
      have hb0 : Below wr.heap.size wr (wr.alloc (.cells #[.string ⟨#[49]⟩, .string ⟨#[49]⟩] 53)) := (Below.refl _ _).alloc (Nat.le_refl _) _
      have HP1 := Lib.hid (HPR.out _ hb0)
      have HB0 := Lib.hid hb0
      clear hso HPR hb0
      have HDX0 := Lib.hid (show wtD p 2 x = wtD p 2 x from rfl)
      generalize hdq : wtD p 2 x = dx at *
      have HDX := Lib.hid hdq
      clear hdq HDX0
      go_wp2_with fail
      refine HP1.out.mono ?_
      rintro e w4 ⟨rfl, hb4⟩
      have c0 := ((Cells.new wr 53 #[.string ⟨#[49]⟩, .string ⟨#[49]⟩]).below hb4 (by simp)).cell 0
      have c1 := ((Cells.new wr 53 #[.string ⟨#[49]⟩, .string ⟨#[49]⟩]).below hb4 (by simp)).cell 1
      have f1 := ((Cells.new wr 53 #[.string ⟨#[49]⟩, .string ⟨#[49]⟩]).below hb4 (by simp)).free 1
      have CC := ((Cells.new wr 53 #[.string ⟨#[49]⟩, .string ⟨#[49]⟩]).below hb4 (by simp)).set 1 (.string ⟨dx.toArray⟩)
      simp at c0 c1
      go_wp2_with fail
      obtain ⟨H, hH⟩ : ∃ H, H = wr.heap.size := ⟨_, rfl⟩
      obtain ⟨W, hW⟩ : ∃ W, W = w4.setCell ⟨wr.heap.size, 1, Option.none⟩ (.string ⟨dx.toArray⟩) := ⟨_, rfl⟩
      have hb04 := HB0.out.trans (hb4.mono HB0.out.size)
      have hba : Below wr.heap.size wr W := by rw [hW]; exact hb04.setCell (p := ⟨wr.heap.size, 1, Option.none⟩) (Nat.le_refl _) _
      rw [← hW] at CC
      have hHW : H < W.heap.size := by rw [hH]; exact CC.lt
      have q0 : W.cell? ⟨H, 0, Option.none⟩ = some (.string ⟨#[49]⟩) := by rw [hH]; exact CC.cell 0
      have q1 : W.cell? ⟨H, 1, Option.none⟩ = some (.string ⟨dx.toArray⟩) := by rw [hH]; exact CC.cell 1
      have HN9 := HT.out.blk
      rw [← hH] at HN9
      have HX4 := Lib.hid (HX.out.lift hba)
      have HT4 := Lib.hid (HT.out.below hba)
      have HBW := Lib.hid (HB.out.trans (hba.mono HB.out.size))
      rw [← hW, ← hH]
      clear hba hW hH HX HT HB hca2 c0 c1 f1 CC hb4 hb04 HB0 HP1

      obtain ⟨ts, hown, hts⟩ := HT4.out
      rw [HLK.out] at hown
      have HO := Lib.hid hown
      have HTS := Lib.hid hts
      have hrx := HX4.out
      obtain ⟨A', c', e', hxc, hxm, hrx⟩ := hrx
      injection e' with e1 _ e3
      subst e1 e3
      have h0l : 0 < (is x).length := by rw [is_length]; omega
      obtain ⟨adx, rfl, hadx, _⟩ := hrx.get 0 _ (List.getElem?_eq_getElem h0l)
      have hnx : ∀ (i : Nat) (z : Value), (is x)[i]? = some z → W.cell? (adx.add i) = some z := fun i z hz => by
        obtain ⟨ad2, e, _, h4⟩ := hrx.get i z hz
        cases e
        exact h4
      have hnb : ∀ W2, Below W.heap.size W W2 → ∀ (i : Nat) (z : Value), (is x)[i]? = some z → W2.cell? (adx.add i) = some z := fun W2 hb i z hz => (hb.cell (p := adx.add i) (by rw [add_block]; exact hadx)).trans (hnx i z hz)
      have HNB := Lib.hid hnb
      have HW0 : Below W.heap.size W W.drew := below_drew (Below.refl _ _)
      have HWA : Below W.heap.size W (W.alloc (.cells #[] 3)).drew := ((Below.refl _ _).alloc (Nat.le_refl _) _).drew
      have hws : w.heap.size ≤ W.heap.size := HBW.out.size
      have hown1 : ∀ z ∈ is x, z.oneCell' = true := fun z hz => by
        obtain ⟨y, _, rfl⟩ := List.mem_map.1 hz
        rfl
      have hH1 : H < W.heap.size := Nat.lt_of_le_of_lt (Nat.le_refl _) hHW
      clear hown hts hrx hnx hnb
      go_wp2_with fail
      go_region_held3 (fun w' => w'.cell? ⟨H, 0, Option.none⟩ = some (.string ⟨#[49]⟩) ∧ w'.cell? ⟨H, 1, Option.none⟩ = some (.string ⟨dx.toArray⟩))
        (first | go_keep | (go_split_ands; exact ⟨(hgA.cell_far _ (by simp; omega) (by simp)).trans (by assumption), (hgA.cell_far _ (by simp; omega) (by simp)).trans (by assumption)⟩) | (go_split_ands; exact ⟨(hgB.cell_far _ (by have := HbA.size; simp; omega) (fun e => by have := HN9 _ e.symm; simp at this)).trans (by assumption), (hgB.cell_far _ (by have := HbA.size; simp; omega) (fun e => by have := HN9 _ e.symm; simp at this)).trans (by assumption)⟩))
        ((first
          | (refine step_append_grows (by rfl) _ _ _ (by rfl) 3 j0 _ 1 8 Tryz.underlying28 hj0 gz0 gz1 gz2 rfl (by decide) (some ⟨W.heap.size, 0, Option.none⟩) 0 0 [] (by rfl) (fun e => by cases e) rfl (fun bb e i z hz => by simp at hz) adx x.length cx (is x) (by rfl) (by rw [is_length]; omega) (HNB.out _ HWA) hown1 (by omega) (by unfold maxLen; omega) (by omega) ?_; intro vA wA hownA hgA; rw [Nat.zero_add, List.nil_append] at hownA; obtain ⟨gA, cA, rfl⟩ := own_formI hownA (by omega); have HbA : Below W.heap.size W wA := HWA.grown hgA (by have := HWA.size; omega) (fun j hj => by cases hj); have HO5 := own_below HO.out HbA)
          | (refine step_append_lies _ (by rfl) _ _ _ (by rfl) w.heap.size 71 i0 _ 3 56 Tryz.underlying61 hi0 hz0 hz1 hz2 rfl (by omega) u9 k (tfl ts) (by rfl) (HO5.alloc _) ⟨wA.heap.size, 0, Option.none⟩ 1 1 [.slice (some ⟨gA, 0, Option.none⟩) x.length cA, .string ⟨#[49]⟩, .string ⟨dx.toArray⟩] (by rfl) (by rfl) (World.news_of_block (cs := #[.slice (some ⟨gA, 0, Option.none⟩) x.length cA, .string ⟨#[49]⟩, .string ⟨dx.toArray⟩]) (t := 71) (fr := (0, 0)) (heap_alloc_new wA _)) (by simp [Value.oneCell']) (by omega) (by unfold maxLen; omega) (by omega) (by have := HbA.size; simp; omega) (wA.heap.size + 1) (by simp) ?_; intro gB cB wB hownB hgB hatB hltB)
          | fail))
      have HSN : Hid (TOwn wB w.heap.size (.slice (some ⟨gB, 0, Option.none⟩) (k + 1) cB) (l.take (k + 1)) (wtD p 2)) := Lib.hid (by
        rw [HTK.out]
        refine TOwn.snoc (by rw [HLK.out]; exact HO5.alloc _) (fun j y hj => ?_) ((ORow.of_own hownA).alloc (.cells #[.slice (some ⟨gA, 0, Option.none⟩) x.length cA, .string ⟨#[49]⟩, .string ⟨dx.toArray⟩] 71)) (by rw [HLK.out, HDX.out]; exact hownB) hgB
        obtain ⟨z, h5, h6⟩ := HTS.out j y hj
        exact ⟨z, h5, (h6.below HbA).alloc _⟩)
      have hbz := ((HBW.out.trans (HbA.mono hws)).alloc (by have := HbA.size; omega) (.cells #[.slice (some ⟨gA, 0, Option.none⟩) x.length cA, .string ⟨#[49]⟩, .string ⟨dx.toArray⟩] 71)).grown hgB (by have := HbA.size; simp; omega) (fun j hj => (HO5.lt j hj).1)
      have HBZ := Lib.hid hbz
      clear hbz hgA hgB hownA hownB HO5 HbA HO HTS HNB HW0 HWA hatB hltB
      go_wp2_with fail
      go_roundw
      case rel => exact ⟨k + 1, by omega, by go_num, HSN, HBZ.out⟩
      case measure => simp [intOf]; omega
    · obtain rfl : k = l.length := by omega
      have hT := HT.out
      rw [List.take_of_length_le (Nat.le_refl _)] at hT
      obtain ⟨B, c', rfl, ht⟩ := hT.shape
      have HTA := Lib.hid ht
      have HB := Lib.hid hbw
      clear hT ht hbw HT
      go_wp2_with fail
      go_ret2
      exact ⟨⟨_, rfl, _, _, rfl, HTA.out⟩, HB.out⟩

end Go.Proofs.YtcfkclafpbaagaaGreatDoor

namespace Go.Proofs.YtcfkclafpbaagaaGreatDoor
open Go.RowKit Go.Lib Go.Shelf

/-- Right weights. -/
def WtOk (d : List UInt8) : Prop := ∃ N : Nat, 0 < N ∧ d = decDigits N ∧ d.length ≤ 30

set_option maxRecDepth 100000 in
set_option maxHeartbeats 4000000 in
theorem damage_ok (pv : Value) (p : List Int) (A : Option Addr) (c : Nat) (l : List (List Int)) (d : List Int → List UInt8) (w : World) (hS : Std w) (hp : IsRow w w.heap.size pv p) (hpe : primeErr p = 0) (ht : TAt w A l d) (hz : ∀ x ∈ l, chkAll p [x] = 0) (hn : l.length ≤ 60) (hd : ∀ x ∈ l, WtOk (d x)) :
    Calls Tryz.prog 37 #[pv, .slice A l.length c] w fun e w' => e = .returned (.int .i64 0) ∧ Below w.heap.size w w' := by
  have HPC := Lib.hid (primeCheck_any pv p w.heap.size w hp)
  rw [hpe] at HPC
  have HS := Lib.hid hS
  have HP := Lib.hid hp
  have HT := Lib.hid ht
  have HZ : Box (∀ x ∈ l, chkAll p [x] = 0) := ⟨hz⟩
  have HD : Box (∀ x ∈ l, WtOk (d x)) := ⟨hd⟩
  have d60 : decide ((60 : Int) < (l.length : Int)) = false := by rw [decide_eq_false_iff_not]; omega
  obtain ⟨AP, cp, rfl⟩ := hp.shape
  clear hS hp hpe ht hz hd
  go_enter Tryz.func37, Tryz.ntmps37
  go_wp2_with fail
  refine HPC.out.mono ?_
  rintro e w1 ⟨rfl, rfl⟩
  clear HPC
  go_wp2_with fail
  go_loopw [20] (fun i wr => ∃ k : Nat, k ≤ l.length ∧ i = .int .i64 k ∧ Below w.heap.size w wr) (fun i _ => l.length - (intOf i).toNat)
  case atStart => exact ⟨0, Nat.zero_le _, rfl, Below.refl _ _⟩
  case round =>
    obtain ⟨k, hk, rfl, hbw⟩ := hrel
    by_cases hlt : k < l.length
    · obtain ⟨b, o, u, rfl, hab, h0, h1, h2, hru⟩ := HT.out k l[k] (List.getElem?_eq_getElem hlt)
      have t0 := (hbw.cell (p := ⟨b, o + k * 3, Option.none⟩) hab).trans h0
      have t1 := (hbw.cell (p := ⟨b, o + k * 3 + 1, Option.none⟩) hab).trans h1
      have t2 := (hbw.cell (p := ⟨b, o + k * 3 + 2, Option.none⟩) hab).trans h2
      have hmem := List.getElem_mem hlt
      have hcx := HZ.out _ hmem
      obtain ⟨N, hN0, hN1, hN2⟩ := HD.out _ hmem
      generalize l[k] = x at *
      generalize d x = dd at *
      have HB := Lib.hid hbw
      have hkn : k ≤ 60 := by omega
      have hk1 : (0 : Int) ≤ (k : Int) := by omega
      have hk2 : (k : Int) < (l.length : Int) := by omega
      have hba : Below wr.heap.size wr (wr.alloc (.cells #[u, .string ⟨#[49]⟩, .string ⟨dd.toArray⟩] 71)) := (Below.refl _ _).alloc (Nat.le_refl _) _
      have hba2 := hbw.trans (hba.mono hbw.size)
      have HC := Lib.hid (check_any (.slice AP p.length cp) u p x _ (HP.out.lift hba2) (hru.lift hba2))
      rw [hcx] at HC
      have HBA := Lib.hid hba2
      have CT := Lib.hid (Cells.new wr 71 #[u, .string ⟨#[49]⟩, .string ⟨dd.toArray⟩])
      have HFC := Lib.hid (fun (W : World) (hb : Below w.heap.size w W) => fracCheck_long 1 (N : Int) W (HS.out.below hb (Nat.le_refl _)) (by rw [show (1 : Int).natAbs = 1 from rfl, dec_small (by omega)]; simp) (by rw [Int.natAbs_natCast, ← hN1]; omega) (by omega) (by rw [Int.natAbs_natCast, show (1 : Int).natAbs = 1 from rfl]; exact Nat.gcd_one_left _))
      have HFS := Lib.hid (fun W => fracSign_any 1 dd W (by rw [itoa_one]; simp))
      have HAB := Lib.hid (fun W => whAbs_any 1 W (by rw [itoa_one]; simp))
      rw [itoa_nat, ← hN1, itoa_one] at HFC
      rw [itoa_one] at HFS HAB
      simp only [show decDigits (1 : Int).natAbs = [49] by rw [show (1 : Int).natAbs = 1 from rfl, dec_small (by omega)]; rfl] at HAB
      rw [show sgn 1 = 1 from rfl] at HFS
      have ddl : decide ((30 : Int) < (dd.length : Int)) = false := by rw [decide_eq_false_iff_not]; omega
      obtain ⟨AU, cu, rfl⟩ := hru.shape
      clear h0 h1 h2 hru hmem hcx hN0 hN1 hN2 hba hba2 hbw
      go_wp2_with fail
      refine HC.out.mono ?_
      rintro e w3 ⟨rfl, hb3⟩
      have C3 := CT.out.below hb3 (by simp)
      have c1 := C3.cell 1
      have c2 := C3.cell 2
      simp at c1 c2
      have HB3 := Lib.hid (HBA.out.trans (hb3.mono HBA.out.size))
      have CR := Lib.hid (Cells.new w3 53 #[.string ⟨#[49]⟩, .string ⟨dd.toArray⟩])
      have hb3a := HB3.out.trans (((Below.refl w3.heap.size w3).alloc (Nat.le_refl _) (.cells #[.string ⟨#[49]⟩, .string ⟨dd.toArray⟩] 53)).mono HB3.out.size)
      have HB4 := Lib.hid hb3a
      have HFC1 := Lib.hid (HFC.out _ hb3a)
      clear hb3 hb3a HC CT HBA HB t0 t1 t2 HFC
      go_wp2_with fail
      refine HFC1.out.mono ?_
      rintro e w4 ⟨he, hb4⟩
      obtain rfl : e = .returned (.int .i64 0) := he
      have C4 := CR.out.below hb4 (by simp)
      have d0 := C4.cell 0
      have d1 := C4.cell 1
      simp at d0 d1
      have HC4 := Lib.hid C4
      have HB5 := Lib.hid (HB4.out.trans (hb4.mono HB4.out.size))
      clear hb4 HFC1 CR HB4 c1 c2 C3 C4
      go_wp2_with fail
      refine (HFS.out w4).mono ?_
      rintro e w5 ⟨he, hb5⟩
      obtain rfl : e = .returned (.int .i64 1) := he
      have C5 := HC4.out.below hb5 HC4.out.lt
      have e0 := C5.cell 0
      have e1 := C5.cell 1
      simp at e0 e1
      have HC5 := Lib.hid C5
      have HB6 := Lib.hid (HB5.out.trans (hb5.mono HB5.out.size))
      clear hb5 HFS HB5 HC4 d0 d1 C5
      go_wp2_with fail
      refine (HAB.out w5).mono ?_
      rintro e w6 ⟨he, hb6⟩
      obtain rfl : e = .returned (.string ⟨#[49]⟩) := he
      have C6 := HC5.out.below hb6 HC5.out.lt
      have f0 := C6.cell 0
      have f1 := C6.cell 1
      simp at f0 f1
      have HB7 := Lib.hid (HB6.out.trans (hb6.mono HB6.out.size))
      clear hb6 HAB HB6 HC5 e0 e1 C6
      go_wp2_with fail
      go_roundw
      case rel => exact ⟨k + 1, by omega, by go_num, HB7.out⟩
      case measure => simp [intOf]; omega
    · obtain rfl : k = l.length := by omega
      have HB := Lib.hid hbw
      clear hbw
      go_wp2_with fail
      go_ret
      exact ⟨rfl, HB.out⟩

end Go.Proofs.YtcfkclafpbaagaaGreatDoor
