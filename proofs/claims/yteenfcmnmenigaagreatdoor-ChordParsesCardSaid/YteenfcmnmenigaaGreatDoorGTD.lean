/- size.downward, size.quotient, fraction.Floor of whole numbers. fraction.Floor of whole numbers, size.ratio to the equave. size.floor, checkQuotient, Floor of an interval's size and the equave's. -/
import Derived.Test.YteenfcmnmenigaaGreatDoorGTC
import Derived.Test.YteenfcmnmenigaaGreatDoorGTA
import Derived.Test.YteenfcmnmenigaaGreatDoorGF
import Derived.Test.YteenfcmnmenigaaGreatDoorGYa
namespace Go.Proofs.YteenfcmnmenigaaGreatDoor
open Go.RowKit Go.Lib

theorem down_neg {a b : Int} (hb : 0 < b) : -((-a + b - 1) / b) = a / b := by
  have h1 := Int.emod_nonneg a (show b ≠ 0 by omega)
  have h2 := Int.emod_lt_of_pos a hb
  have h3 := Int.mul_ediv_add_emod a b
  have h4 : (-a + b - 1) / b = -(a / b) := by
    refine Int.le_antisymm ?_ ?_
    · refine Int.lt_add_one_iff.1 (Int.ediv_lt_of_lt_mul hb ?_)
      rw [Int.add_mul, Int.neg_mul, Int.mul_comm (a / b) b]
      omega
    · refine Int.le_ediv_of_mul_le hb ?_
      rw [Int.neg_mul, Int.mul_comm (a / b) b]
      omega
  omega

set_option maxHeartbeats 1000000 in
theorem down_any (a b : Int) (w : World) (hb : 0 < b) (hb2 : b ≤ 1152921504606846976) (ha : a.natAbs ≤ 1152921504606846976) :
    Calls Tryz.prog 238 #[.int .i64 a, .int .i64 b] w fun e w' => e = .returned (.int .i64 (a / b)) ∧ w = w' := by
  by_cases hneg : a < 0
  · have e1 := down_neg (a := a) hb
    have hq0 : 0 ≤ (-a + b - 1) / b := Int.ediv_nonneg (by omega) (by omega)
    have hq1 : (-a + b - 1) / b ≤ -a + b - 1 := Int.ediv_le_self _ (by omega)
    have hw1 : IntKind.i64.wrap (-a) = -a := IntWalk.i64_in _ (by omega)
    have hw2 : IntKind.i64.wrap (-a + b) = -a + b := IntWalk.i64_in _ (by omega)
    have hw3 : IntKind.i64.wrap (-a + b - 1) = -a + b - 1 := IntWalk.i64_in _ (by omega)
    have hq2 : (-a + b - 1).tdiv b = (-a + b - 1) / b := Int.tdiv_eq_ediv_of_nonneg (by omega)
    have hw4 : IntKind.i64.wrap ((-a + b - 1) / b) = (-a + b - 1) / b := IntWalk.i64_in _ (by omega)
    have hw5 : IntKind.i64.wrap (-((-a + b - 1) / b)) = -((-a + b - 1) / b) := IntWalk.i64_in _ (by omega)
    have hb0 : ¬ b = 0 := by omega
    go_enter Tryz.func238, Tryz.ntmps238
    go_wp2_with fail
    go_ret
    exact ⟨by rw [← e1]; rfl, rfl⟩
  · have hq2 : a.tdiv b = a / b := Int.tdiv_eq_ediv_of_nonneg (by omega)
    have hq0 : 0 ≤ a / b := Int.ediv_nonneg (by omega) (by omega)
    have hq1 : a / b ≤ a := Int.ediv_le_self _ (by omega)
    have hw4 : IntKind.i64.wrap (a / b) = a / b := IntWalk.i64_in _ (by omega)
    have hb0 : ¬ b = 0 := by omega
    go_enter Tryz.func238, Tryz.ntmps238
    go_wp2_with fail
    go_ret
    exact ⟨rfl, rfl⟩

theorem lo_le_hi : ∀ l : List Trm, loZ l ≤ hiZ l
  | [] => Int.le_refl _
  | x :: l => by
    have h := lo_le_hi l
    have h2 : loT (x.1.1, x.1.2) ≤ hiT (x.1.1, x.1.2) := by unfold loT hiT; omega
    simp only [loZ, hiZ]
    omega

set_option maxRecDepth 100000 in
set_option maxHeartbeats 4000000 in
theorem quotient_any (v1 v2 u1 u2 : Value) (xs ys : List Trm) (q : Int) (w : World) (hx : xs.length ≤ 64) (hy : ys.length ≤ 64)
    (h1 : IsRow w w.heap.size v1 (trmP xs)) (h2 : IsZs w w.heap.size v2 (trmF xs)) (h3 : IsRow w w.heap.size u1 (trmP ys)) (h4 : IsZs w w.heap.size u2 (trmF ys))
    (hpos : 0 < loZ ys) (hq : quotQ (loZ xs) (hiZ xs) (loZ ys) (hiZ ys) = some q) :
    Calls Tryz.prog 230 #[.agg #[v1, v2, .string ⟨#[49]⟩], .agg #[u1, u2, .string ⟨#[49]⟩]] w fun e w' => e = .returned (.tuple #[.int .i64 q, .bool true]) ∧ Below w.heap.size w w' := by
  have HNX := Lib.hid (fun W (hb : Below w.heap.size w W) => near_any v1 v2 (.string ⟨#[49]⟩) 100000 xs W (by omega) (by omega) (by omega) (h1.lift hb) (h2.lift hb))
  have HNY := Lib.hid (fun W (hb : Below w.heap.size w W) => near_any u1 u2 (.string ⟨#[49]⟩) 100000 ys W (by omega) (by omega) (by omega) (h3.lift hb) (h4.lift hb))
  have H1 : ∀ W, Calls Tryz.prog 178 #[.string ⟨#[49]⟩] W fun e w' => e = .returned (.tuple #[.int .i64 1, .bool true]) ∧ Below W.heap.size W w' := fun W => by
    have h := whSmall_any 1 W (by omega) (by omega)
    rwa [itoa_one] at h
  have H1 := Lib.hid H1
  have hA := loZ_bound xs
  have hB := loZ_bound ys
  have hle := lo_le_hi ys
  generalize loZ xs = xl at *
  generalize hiZ xs = xh at *
  generalize loZ ys = yl at *
  generalize hiZ ys = yh at *
  have wx1 : IntKind.i64.wrap xl = xl := IntWalk.i64_in _ (by omega)
  have wx2 : IntKind.i64.wrap xh = xh := IntWalk.i64_in _ (by omega)
  have wy1 : IntKind.i64.wrap yl = yl := IntWalk.i64_in _ (by omega)
  have wy2 : IntKind.i64.wrap yh = yh := IntWalk.i64_in _ (by omega)
  have d1 : decide (yh ≤ 0) = false := by rw [decide_eq_false_iff_not]; omega
  have d2 : decide (yl ≤ 0) = false := by rw [decide_eq_false_iff_not]; omega
  unfold quotQ at hq
  obtain ⟨L, hL⟩ : ∃ L, L = (if xl < 0 then yl else yh) := ⟨_, rfl⟩
  obtain ⟨H, hH⟩ : ∃ H, H = (if xh < 0 then yh else yl) := ⟨_, rfl⟩
  rw [← hL, ← hH] at hq
  have hLb : 0 < L ∧ L ≤ 1152921504606846976 := by rw [hL]; split <;> omega
  have hHb : 0 < H ∧ H ≤ 1152921504606846976 := by rw [hH]; split <;> omega
  have wL : IntKind.i64.wrap L = L := IntWalk.i64_in _ (by omega)
  have wH : IntKind.i64.wrap H = H := IntWalk.i64_in _ (by omega)
  have HD1 := Lib.hid (fun W => down_any xl L W hLb.1 hLb.2 (by omega))
  have HD2 := Lib.hid (fun W => down_any xh H W hHb.1 hHb.2 (by omega))
  obtain ⟨hqe, hqv⟩ : xl / L = xh / H ∧ xl / L = q := by
    split at hq
    · rename_i h; injection hq with hq; exact ⟨h, hq⟩
    · cases hq
  rw [hqv] at HD1
  rw [← hqe, hqv] at HD2
  have HB0 := Lib.hid (((Below.refl w.heap.size w).alloc (Nat.le_refl _) (.cells #[v1, v2, .string ⟨#[49]⟩] 259)).alloc (by simp) (.cells #[u1, u2, .string ⟨#[49]⟩] 259))
  have K1 := Lib.hid ((Cells.new w 259 #[v1, v2, .string ⟨#[49]⟩]).alloc (.cells #[u1, u2, .string ⟨#[49]⟩] 259))
  have hK2 := Cells.new (w.alloc (.cells #[v1, v2, .string ⟨#[49]⟩] 259)) 259 #[u1, u2, .string ⟨#[49]⟩]
  rw [World.size_alloc] at hK2
  have K2 := Lib.hid hK2
  clear hK2 h1 h2 h3 h4 hA hB hle hLb hHb hx hy hpos hq hqe hqv
  by_cases c1 : xl < 0
  all_goals by_cases c2 : xh < 0
  all_goals simp only [c1, c2, if_true, if_false] at hL hH
  all_goals subst hL hH
  all_goals
    go_enter Tryz.func230, Tryz.ntmps230
    go_wp2_with fail
    refine (HNX.out _ HB0.out).mono ?_
    rintro e wa ⟨rfl, hb1⟩
    have k2 := K2.out.below hb1 K2.out.lt
    have K1a := Lib.hid (K1.out.below hb1 K1.out.lt)
    have K2a := Lib.hid k2
    have Ba := Lib.hid (HB0.out.trans (hb1.mono HB0.out.size))
    have q0 := k2.cell 0
    have q1 := k2.cell 1
    have q2 := k2.cell 2
    simp at q0 q1 q2
    clear hb1 k2
    go_wp2_with fail
    refine (HNY.out _ Ba.out).mono ?_
    rintro e wb ⟨rfl, hb1⟩
    have k1 := K1a.out.below hb1 K1a.out.lt
    have p2 := k1.cell 2
    simp at p2
    have K2b := Lib.hid (K2a.out.below hb1 K2a.out.lt)
    have Bb := Lib.hid (Ba.out.trans (hb1.mono Ba.out.size))
    clear hb1 k1 q0 q1 q2
    go_wp2_with fail
    refine (H1.out _).mono ?_
    rintro e wc ⟨rfl, hb1⟩
    have k2 := K2b.out.below hb1 K2b.out.lt
    have r2 := k2.cell 2
    simp at r2
    have Bc := Lib.hid (Bb.out.trans (hb1.mono Bb.out.size))
    clear hb1 k2 p2
    go_wp2_with fail
    refine (H1.out _).mono ?_
    rintro e wd ⟨rfl, hb1⟩
    have Bd := Lib.hid (Bc.out.trans (hb1.mono Bc.out.size))
    clear hb1 r2
    go_wp2_with fail
    refine (HD1.out _).mono ?_
    rintro e w1 ⟨rfl, hw⟩
    have hw2 := hw.symm
    clear hw
    subst hw2
    go_wp2_with fail
    refine (HD2.out _).mono ?_
    rintro e w1 ⟨rfl, hw⟩
    have hw2 := hw.symm
    clear hw
    subst hw2
    go_wp2_with fail
    go_ret2
    exact ⟨rfl, Bd.out⟩

end Go.Proofs.YteenfcmnmenigaaGreatDoor

namespace Go.Proofs.YteenfcmnmenigaaGreatDoor
open Go.RowKit Go.Lib

theorem low_one (z : Int) : lowN z 1 = z ∧ lowD z 1 = 1 := by
  unfold lowN lowD
  simp
theorem fMul_one (k x : Int) (w : World) (hS : Std w) (hk : k.natAbs ≤ 1000000) (hx : x.natAbs ≤ 1000000) :
    Calls Tryz.prog 236 #[.agg #[.string ⟨(itoa k).toArray⟩, .string ⟨#[49]⟩], .agg #[.string ⟨(itoa x).toArray⟩, .string ⟨#[49]⟩]] w fun e w' => e = .returned (.agg #[.string ⟨(itoa (k * x)).toArray⟩, .string ⟨#[49]⟩]) ∧ Below w.heap.size w w' := by
  have h1 := small_len hk
  have h2 := small_len hx
  have h := fMul_nums k 1 x 1 w hS (by omega) (by decide +kernel) (by omega) (by decide +kernel) (by decide) (by decide)
  rw [Int.mul_one, (low_one (k * x)).1, (low_one (k * x)).2, itoa_one] at h
  exact h
theorem fDiv_one (a : Int) (w : World) (hS : Std w) (ha : a.natAbs ≤ 1000000) :
    Calls Tryz.prog 235 #[.agg #[.string ⟨(itoa a).toArray⟩, .string ⟨#[49]⟩], .agg #[.string ⟨#[49]⟩, .string ⟨#[49]⟩]] w fun e w' => e = .returned (.tuple #[.agg #[.string ⟨(itoa a).toArray⟩, .string ⟨#[49]⟩], .int .i64 0]) ∧ Below w.heap.size w w' := by
  have h1 := small_len ha
  have h := fDiv_nums a 1 1 1 w hS (by omega) (by decide +kernel) (by decide +kernel) (by decide +kernel) (by rw [Int.mul_one]; omega) (by decide +kernel) (by decide) (by decide)
  rw [Int.mul_one, Int.mul_one, (low_one a).1, (low_one a).2, itoa_one] at h
  exact h
theorem fFloor_one (a : Int) (w : World) (hS : Std w) (ha : a.natAbs ≤ 1000000) :
    Calls Tryz.prog 229 #[.agg #[.string ⟨(itoa a).toArray⟩, .string ⟨#[49]⟩]] w fun e w' => e = .returned (.string ⟨(itoa a).toArray⟩) ∧ Below w.heap.size w w' := by
  have hl := small_len ha
  have HM := Lib.hid (fun W (hW : Std W) => by
    have h := whDivMod_any a 1 W hW (by omega) (by decide +kernel) (by decide)
    rwa [show ((1 : Nat) : Int) = 1 from rfl, Int.ediv_one, dec_one] at h)
  have HS := Lib.hid hS
  have hb0 : Below w.heap.size w (w.alloc (.cells #[.string ⟨(itoa a).toArray⟩, .string ⟨#[49]⟩] 72)) := (Below.refl _ _).alloc (Nat.le_refl _) _
  have HB0 := Lib.hid hb0
  clear hS hl ha hb0
  generalize itoa a = l at *
  go_enter Tryz.func229, Tryz.ntmps229
  go_wp2_with fail
  refine (HM.out _ (HS.out.below HB0.out (Nat.le_refl _))).mono ?_
  rintro e w1 ⟨rfl, hb1⟩
  have HB1 := Lib.hid (HB0.out.trans (hb1.mono HB0.out.size))
  clear hb1
  go_wp2_with fail
  go_ret
  exact ⟨rfl, HB1.out⟩

/-- The size of the equave. -/
def uni (n : Nat) : List Int := 1 :: List.replicate n 0
theorem uni_len (n : Nat) : (uni n).length = n + 1 := by simp [uni]
theorem uni_at {n k : Nat} (hk : k < (uni n).length) (h0 : k ≠ 0) : (uni n)[k] = 0 := by
  obtain ⟨j, rfl⟩ : ∃ j, k = j + 1 := ⟨k - 1, by omega⟩
  simp [uni]

/-- Nothing but the first element differs from 0. -/
def pureT (a : List Int) : Bool := a.tail.all fun z => decide (z = 0)
theorem pureT_true {a : List Int} (h : ∀ k, 0 < k → k < a.length → a[k]?.getD 0 = 0) : pureT a = true := by
  unfold pureT
  rw [List.all_eq_true]
  intro z hz
  obtain ⟨j, hj, rfl⟩ := List.getElem_of_mem hz
  have := h (j + 1) (by omega) (by rw [List.length_tail] at hj; omega)
  rw [List.getElem_tail]
  rw [List.getElem?_eq_getElem (by rw [List.length_tail] at hj; omega)] at this
  simpa using this
theorem pureT_false {a : List Int} {k : Nat} (h0 : 0 < k) (hk : k < a.length) (h : a[k] ≠ 0) : pureT a = false := by
  rw [Bool.eq_false_iff]
  intro hp
  unfold pureT at hp
  rw [List.all_eq_true] at hp
  have := hp a[k] (by
    have e : a[k] = a.tail[k - 1]'(by rw [List.length_tail]; omega) := by rw [List.getElem_tail]; congr 1; omega
    rw [e]
    exact List.getElem_mem _)
  exact h (by simpa using this)

set_option maxRecDepth 100000 in
set_option maxHeartbeats 4000000 in
theorem szRatio (av bv : Value) (a : List Int) (n : Nat) (w : World) (hS : Std w) (hn : n ≤ 64) (ha : IsSize w w.heap.size av a) (hb : IsSize w w.heap.size bv (uni n)) (hlen : a.length = n + 1) (hl : SmallL a) :
    Calls Tryz.prog 228 #[av, bv] w fun e w' => e = .returned (.tuple #[.agg #[.string ⟨(itoa (a[0]?.getD 0)).toArray⟩, .string ⟨#[49]⟩], .bool (pureT a)]) ∧ Below w.heap.size w w' := by
  have HS := Lib.hid hS
  have HA := Lib.hid ha
  have HB := Lib.hid hb
  obtain ⟨AA, ca, rfl, _, _, _⟩ := ha
  obtain ⟨AB, cb, rfl, _, _, _⟩ := hb
  have HL : Box (∀ z ∈ a, z.natAbs ≤ 1000000) := ⟨hl⟩
  have HLEN : Box (a.length = n + 1) := ⟨hlen⟩
  rw [uni_len]
  have hb0 : Below w.heap.size w (w.alloc (.cells #[.string ⟨#[]⟩, .string ⟨#[]⟩] 72)) := (Below.refl _ _).alloc (Nat.le_refl _) _
  have HC0 := Lib.hid (Cells.new w 72 #[.string ⟨#[]⟩, .string ⟨#[]⟩])
  have HN := Lib.hid (szNumber 0 _ (hS.below hb0 (Nat.le_refl _)) (by decide) (by decide))
  have HB0 := Lib.hid hb0
  clear hS hl hlen hb0
  have HZ0 := Lib.hid itoa_zero
  go_enter Tryz.func228, Tryz.ntmps228
  go_wp2_with fail
  refine HN.out.mono ?_
  rintro e w1 ⟨rfl, hb1⟩
  have hc0 := HC0.out.below hb1 HC0.out.lt
  have HB1 := Lib.hid (HB0.out.trans (hb1.mono HB0.out.size))
  have hlt1 : w.heap.size < w1.heap.size := hc0.lt
  have HC0b := Lib.hid (hc0.alloc (.cells #[.string ⟨(itoa 0).toArray⟩, .string ⟨#[49]⟩] 72))
  clear hb1 hc0
  go_wp2_with fail
  obtain ⟨wx, hwx⟩ : ∃ wx, wx = w1.alloc (.cells #[.string ⟨(itoa 0).toArray⟩, .string ⟨#[49]⟩] 72) := ⟨_, rfl⟩
  have hg := Cells.new w1 72 #[.string ⟨(itoa 0).toArray⟩, .string ⟨#[49]⟩]
  have hbx : Below w.heap.size w wx := by rw [hwx]; exact HB1.out.alloc HB1.out.size _
  have hc0 := HC0b.out
  rw [← hwx] at hg hc0 ⊢
  have HG0 := Lib.hid hg
  have HC1 := Lib.hid hc0
  have HBX := Lib.hid hbx
  generalize hgb : w1.heap.size = g at *
  clear hwx HB1 HC0b hg hc0 hbx hgb
  go_loopw [14] (fun i wr => ∃ (k : Nat), k ≤ n + 1 ∧ i = .int .i64 k ∧ Cells wr w.heap.size 72 [.string ⟨#[]⟩, .string ⟨#[]⟩] ∧ Cells wr g 72 [.string ⟨(itoa (if k = 0 then 0 else a[0]?.getD 0)).toArray⟩, .string ⟨#[49]⟩] ∧ Below w.heap.size w wr) (fun i _ => n + 1 - (intOf i).toNat)
  case atStart => exact ⟨0, Nat.zero_le _, rfl, HC1.out, HG0.out, HBX.out⟩
  case round =>
    clear HC1 HG0 HBX
    obtain ⟨k, hk, rfl, hc0, hc1, hbw⟩ := hrel
    by_cases hlt : k < n + 1
    · obtain ⟨b1, o1, rfl, hb1, p0, p1⟩ := (HB.out.lift hbw).at_ (k := k) (by rw [uni_len]; exact hlt)
      obtain ⟨b2, o2, rfl, hb2, s0, s1⟩ := (HA.out.keep hbw).at_ (k := k) (by rw [HLEN.out]; exact hlt)
      have hza := HL.out _ (List.getElem_mem (by rw [HLEN.out]; exact hlt))
      by_cases h0 : k = 0
      · rw [show (uni n)[k]'(by rw [uni_len]; exact hlt) = 1 by subst h0; rfl, itoa_one] at p0
        have hak : a[0]?.getD 0 = a[k]'(by rw [HLEN.out]; exact hlt) := by subst h0; rw [List.getElem?_eq_getElem (by rw [HLEN.out]; exact hlt)]; rfl
        rw [if_pos h0] at hc1
        have HAK := Lib.hid hak
        clear hak
        have HD := Lib.hid (fun W hW => fDiv_one (a[k]'(by rw [HLEN.out]; exact hlt)) W hW hza)
        generalize a[k]'(by rw [HLEN.out]; exact hlt) = z at *
        generalize hzl : itoa z = zl at *
        have HZL := Lib.hid hzl
        clear hzl
        have n0 := (Cells.new wr 72 #[.string ⟨#[49]⟩, .string ⟨#[49]⟩])
        have s0' := cell_alloc (o := .cells #[.string ⟨#[49]⟩, .string ⟨#[49]⟩] 72) s0
        have s1' := cell_alloc (o := .cells #[.string ⟨#[49]⟩, .string ⟨#[49]⟩] 72) s1
        have HC0 := Lib.hid (hc0.alloc (.cells #[.string ⟨#[49]⟩, .string ⟨#[49]⟩] 72))
        have HC1 := Lib.hid (hc1.alloc (.cells #[.string ⟨#[49]⟩, .string ⟨#[49]⟩] 72))
        have HBW := Lib.hid (hbw.alloc hbw.size (.cells #[.string ⟨#[49]⟩, .string ⟨#[49]⟩] 72))
        have hgw : g < wr.heap.size := hc1.lt
        have hnb : b2 ≠ g := by omega
        have hnw : wr.heap.size ≠ g := by omega
        have hng : w.heap.size ≠ g := by omega
        have hgl : w.heap.size ≤ g := by omega
        have hbb : w.heap.size ≤ wr.heap.size := hbw.size
        clear hc0 hc1 hbw s0 s1 hza h0
        obtain ⟨wy, hwy⟩ : ∃ wy, wy = wr.alloc (.cells #[.string ⟨#[49]⟩, .string ⟨#[49]⟩] 72) := ⟨_, rfl⟩
        have hk0 : (0 : Int) ≤ (k : Int) := by omega
        have hkn : (k : Int) < (a.length : Int) := by have := HLEN.out; omega
        go_wp2_with fail
        refine region_E (T := (fun w' => w'.cell? ⟨b2, o2 + k * 2, Option.none⟩ = some (.string ⟨zl.toArray⟩) ∧ w'.cell? ⟨b2, o2 + k * 2 + 1, Option.none⟩ = some (.string ⟨#[49]⟩) ∧ w'.cell? ⟨wr.heap.size, 0, Option.none⟩ = some (.string ⟨#[49]⟩) ∧ w'.cell? ⟨wr.heap.size, 1, Option.none⟩ = some (.string ⟨#[49]⟩))) (D := []) (S := (fun _ => True)) (E := []) (by kernel_rfl) ?_ (fun hHeld => ?_)
        · exact ⟨⟨s0', s1', n0.cell 0, n0.cell 1⟩, trivial⟩
        refine anyE_easyD (i := 0) (d := some 23) (oi := _) (v := ?ev98) rfl rfl (by kernel_rfl) (by kernel_rfl) (by kernel_rfl) (fun _ _ _ h => h) (Or.inl ⟨by rfl, ?eh98⟩) ?er98
        case eh98 => (intro w hSw; (try dsimp only at hSw); go_simp; try (with_reducible rfl))
        try simp only [Act.put, List.setIfInBounds_toArray, List.set_cons_zero, List.set_cons_succ]
        refine anyE_easyD (i := 1) (d := some 24) (oi := _) (v := ?ev99) rfl rfl (by kernel_rfl) (by kernel_rfl) (by kernel_rfl) (fun _ _ _ h => h) (Or.inl ⟨by rfl, ?eh99⟩) ?er99
        case eh99 => (intro w hSw; (try dsimp only at hSw); go_simp; try (with_reducible rfl))
        try simp only [Act.put, List.setIfInBounds_toArray, List.set_cons_zero, List.set_cons_succ]
        refine anyE_easyD (i := 2) (d := some 25) (oi := _) (v := ?ev100) rfl rfl (by kernel_rfl) (by kernel_rfl) (by kernel_rfl) (fun _ _ _ h => h) (Or.inl ⟨by rfl, ?eh100⟩) ?er100
        case eh100 => (intro w hSw; (try dsimp only at hSw); go_simp; try (with_reducible rfl))
        try simp only [Act.put, List.setIfInBounds_toArray, List.set_cons_zero, List.set_cons_succ]
        refine anyE_heldD (i := 3) (d := some 26) (oi := _) (v := ?ev101) rfl rfl (by kernel_rfl) (by kernel_rfl) (by kernel_rfl) (by kernel_rfl) (fun _ _ _ h => h) (Or.inl ⟨by rfl, ?eh101⟩) (by first | exact hHeld | exact And.left hHeld) ?er101
        case eh101 => (intro w hSw; (try dsimp only at hSw); go_simp; try (with_reducible rfl))
        try simp only [Act.put, List.setIfInBounds_toArray, List.set_cons_zero, List.set_cons_succ]
        refine anyE_heldD (i := 4) (d := some 27) (oi := _) (v := ?ev102) rfl rfl (by kernel_rfl) (by kernel_rfl) (by kernel_rfl) (by kernel_rfl) (fun _ _ _ h => h) (Or.inl ⟨by rfl, ?eh102⟩) (by first | exact hHeld | exact And.left hHeld) ?er102
        case eh102 => (intro w hSw; (try dsimp only at hSw); go_simp; try (with_reducible rfl))
        try simp only [Act.put, List.setIfInBounds_toArray, List.set_cons_zero, List.set_cons_succ]
        refine anyE_oneD (i := 5) (o := _) (d := some 28) (by kernel_rfl) rfl rfl (fun K hK => ?_)
        go_simp
        refine (HD.out _ (HS.out.below (below_drew HBW.out) (Nat.le_refl _))).mono ?_
        rintro e w3 ⟨rfl, hb3⟩
        have u0 := (hb3.cell (p := ⟨b2, o2 + k * 2, Option.none⟩) (cell_lt hHeld.1.1)).trans hHeld.1.1
        have u1 := (hb3.cell (p := ⟨b2, o2 + k * 2 + 1, Option.none⟩) (cell_lt hHeld.1.2.1)).trans hHeld.1.2.1
        have u2 := (hb3.cell (p := ⟨wr.heap.size, 0, Option.none⟩) (cell_lt hHeld.1.2.2.1)).trans hHeld.1.2.2.1
        have u3 := (hb3.cell (p := ⟨wr.heap.size, 1, Option.none⟩) (cell_lt hHeld.1.2.2.2)).trans hHeld.1.2.2.2
        have HC0' := Lib.hid (HC0.out.drew.below hb3 HC0.out.lt)
        have hc1 := HC1.out.drew.below hb3 HC1.out.lt
        have HC1' := Lib.hid hc1
        have HB3 := Lib.hid ((below_drew HBW.out).trans (hb3.mono (below_drew HBW.out).size))
        have v0 := hc1.cell 0
        have v1 := hc1.cell 1
        have f0 := hc1.free 0
        have f1 := hc1.free 1
        simp at v0 v1
        clear hb3 hc1
        refine hK.out _ _ ?_ (fun hHeld => ?_)
        · exact ⟨⟨u0, u1, u2, u3⟩, trivial⟩
        refine anyE_easyD (i := 6) (d := some 22) (oi := _) (v := ?ev104) rfl rfl (by kernel_rfl) (by kernel_rfl) (by kernel_rfl) (fun _ _ _ h => h) (Or.inl ⟨by rfl, ?eh104⟩) ?er104
        case eh104 => (intro w hSw; (try dsimp only at hSw); go_simp; try (with_reducible rfl))
        try simp only [Act.put, List.setIfInBounds_toArray, List.set_cons_zero, List.set_cons_succ]
        refine anyE_easyD (i := 7) (d := some 29) (oi := _) (v := ?ev105) rfl rfl (by kernel_rfl) (by kernel_rfl) (by kernel_rfl) (fun _ _ _ h => h) (Or.inl ⟨by rfl, ?eh105⟩) ?er105
        case eh105 => (intro w hSw; (try dsimp only at hSw); go_simp; try (with_reducible rfl))
        try simp only [Act.put, List.setIfInBounds_toArray, List.set_cons_zero, List.set_cons_succ]
        refine anyE_easyD (i := 8) (d := some 30) (oi := _) (v := ?ev106) rfl rfl (by kernel_rfl) (by kernel_rfl) (by kernel_rfl) (fun _ _ _ h => h) (Or.inl ⟨by rfl, ?eh106⟩) ?er106
        case eh106 => (intro w hSw; (try dsimp only at hSw); go_simp; try (with_reducible rfl))
        try simp only [Act.put, List.setIfInBounds_toArray, List.set_cons_zero, List.set_cons_succ]
        refine anyE_oneD (i := 9) (o := _) (d := Option.none) (by kernel_rfl) rfl rfl (fun K hK => ?_)
        go_simp
        refine hK.out _ _ ?_ (fun hHeld => ?_)
        · exact ⟨⟨cell_set_far (cell_set_far u0 hnb) hnb, cell_set_far (cell_set_far u1 hnb) hnb, cell_set_far (cell_set_far u2 hnw) hnw, cell_set_far (cell_set_far u3 hnw) hnw⟩, trivial⟩
        refine anyE_done (by kernel_rfl) ?_ _
        go_wp2_with fail
        go_roundw
        case rel =>
          refine ⟨k + 1, by omega, by go_num, (HC0'.out.far hng _).far hng _, ?_, (HB3.out.setCell hgl _).setCell hgl _⟩
          rw [if_neg (by omega), HAK.out, HZL.out]
          exact (HC1'.out.set 0 _).set 1 _
        case measure => simp [intOf]; omega
      · rw [uni_at (by rw [uni_len]; exact hlt) h0, itoa_zero] at p0
        rw [if_neg h0] at hc1
        have HC0 := Lib.hid (hc0.alloc (.cells #[.string ⟨#[48]⟩, .string ⟨#[49]⟩] 72))
        have HC1 := Lib.hid (hc1.alloc (.cells #[.string ⟨#[48]⟩, .string ⟨#[49]⟩] 72))
        have HBW := Lib.hid (hbw.alloc hbw.size (.cells #[.string ⟨#[48]⟩, .string ⟨#[49]⟩] 72))
        clear hc0 hc1 hbw hza s0 s1
        go_wp2_with fail
        go_roundw
        case rel => exact ⟨k + 1, by omega, by go_num, HC0.out, by rw [if_neg (by omega)]; exact HC1.out, HBW.out⟩
        case measure => simp [intOf]; omega
    · obtain rfl : k = n + 1 := by omega
      rw [if_neg (by omega)] at hc1
      have HC0 := Lib.hid hc0
      have HC1 := Lib.hid hc1
      have HBW := Lib.hid hbw
      have hgw : g < wr.heap.size := hc1.lt
      clear hc0 hc1 hbw
      generalize hwo : wr = wo at *
      clear hwo
      go_wp2_with fail
      have HA0 : Box ((a[0]?.getD 0).natAbs ≤ 1000000) := ⟨by
        rw [List.getElem?_eq_getElem (by rw [HLEN.out]; omega)]
        exact HL.out _ (List.getElem_mem _)⟩
      generalize had : a[0]?.getD 0 = a0 at *
      have HAD := Lib.hid had
      clear had
      go_loopw [34] (fun i wr => ∃ (k : Nat), k ≤ n + 1 ∧ i = .int .i64 k ∧ Box (∀ j, 0 < j → j < k → a[j]?.getD 0 = 0) ∧ Cells wr w.heap.size 72 [.string ⟨#[]⟩, .string ⟨#[]⟩] ∧ Cells wr g 72 [.string ⟨(itoa a0).toArray⟩, .string ⟨#[49]⟩] ∧ Below w.heap.size w wr) (fun i _ => n + 1 - (intOf i).toNat)
      case atStart => exact ⟨0, Nat.zero_le _, rfl, ⟨fun j _ h => by omega⟩, HC0.out, HC1.out, HBW.out⟩
      case round =>
        clear HC0 HC1 HBW
        obtain ⟨k, hk, rfl, HP, hc0, hc1, hbw⟩ := hrel
        by_cases hlt : k < n + 1
        · obtain ⟨b1, o1, rfl, hb1, p0, p1⟩ := (HB.out.keep hbw).at_ (k := k) (by rw [uni_len]; exact hlt)
          obtain ⟨b2, o2, rfl, hb2, s0, s1⟩ := (HA.out.keep hbw).at_ (k := k) (by rw [HLEN.out]; exact hlt)
          have hka : k < a.length := by rw [HLEN.out]; exact hlt
          have hux : ((uni n)[k]'(by rw [uni_len]; exact hlt)).natAbs ≤ 1000000 := by
            by_cases h0 : k = 0
            · subst h0; exact (by decide : (1 : Int).natAbs ≤ 1000000)
            · rw [uni_at (by rw [uni_len]; exact hlt) h0]; decide
          generalize hxe : (uni n)[k]'(by rw [uni_len]; exact hlt) = x at *
          have hza := HL.out _ (List.getElem_mem hka)
          have hgz : a[k]?.getD 0 = a[k] := by rw [List.getElem?_eq_getElem hka]; rfl
          have HZK := Lib.hid hgz
          have HPF : Box (0 < k → a[k] ≠ 0 → pureT a = false) := ⟨fun h1 h2 => pureT_false h1 hka h2⟩
          have HXE : Box (k = 0 ∧ x = 1 ∨ 0 < k ∧ x = 0) := ⟨by
            by_cases h0 : k = 0
            · left
              refine ⟨h0, ?_⟩
              rw [← hxe]
              subst h0
              rfl
            · right
              refine ⟨by omega, ?_⟩
              rw [← hxe]
              exact uni_at (by rw [uni_len]; exact hlt) h0⟩
          have HM := Lib.hid (fun W hW => fMul_one a0 x W hW HA0.out hux)
          have H0Z : Box (k = 0 → a0 = a[k]) := ⟨fun h => by rw [← HAD.out, ← hgz]; subst h; rfl⟩
          have hne : (itoa (a0 * x) == itoa (a[k])) = decide (a0 * x = a[k]) := by
            rw [Bool.eq_iff_iff]
            simp only [beq_iff_eq, decide_eq_true_iff]
            exact ⟨itoa_inj, fun h => by rw [h]⟩
          clear hgz hxe hux
          generalize a[k] = z at *
          have hkn : (k : Int) < (a.length : Int) := by omega
          have hk0 : (0 : Int) ≤ (k : Int) := by omega
          obtain ⟨y, hy⟩ : ∃ y, y = a0 * x := ⟨_, rfl⟩
          rw [← hy] at HM hne
          have HY := Lib.hid hy
          clear hy
          generalize hzl : itoa z = zl at *
          generalize hyl : itoa y = yl at *
          generalize hxl : itoa x = xl at *
          generalize h0l : itoa a0 = al at *
          have H0L := Lib.hid h0l
          clear hzl hyl hxl h0l
          have n0 := (Cells.new wr 72 #[.string ⟨xl.toArray⟩, .string ⟨#[49]⟩])
          have s0' := cell_alloc (o := .cells #[.string ⟨xl.toArray⟩, .string ⟨#[49]⟩] 72) s0
          have s1' := cell_alloc (o := .cells #[.string ⟨xl.toArray⟩, .string ⟨#[49]⟩] 72) s1
          have HC0 := Lib.hid (hc0.alloc (.cells #[.string ⟨xl.toArray⟩, .string ⟨#[49]⟩] 72))
          have HC1 := Lib.hid (hc1.alloc (.cells #[.string ⟨xl.toArray⟩, .string ⟨#[49]⟩] 72))
          have HBW := Lib.hid (hbw.alloc hbw.size (.cells #[.string ⟨xl.toArray⟩, .string ⟨#[49]⟩] 72))
          have hgwr : g < wr.heap.size := hc1.lt
          have hbb : w.heap.size ≤ wr.heap.size := hbw.size
          clear hc0 hc1 hbw s0 s1 hza
          have hww : w.heap.size < wr.heap.size := by omega
          go_wp2_with fail
          refine region_E (T := (fun w' => w'.cell? ⟨b2, o2 + k * 2, Option.none⟩ = some (.string ⟨zl.toArray⟩) ∧ w'.cell? ⟨b2, o2 + k * 2 + 1, Option.none⟩ = some (.string ⟨#[49]⟩) ∧ w'.cell? ⟨wr.heap.size, 0, Option.none⟩ = some (.string ⟨xl.toArray⟩) ∧ w'.cell? ⟨wr.heap.size, 1, Option.none⟩ = some (.string ⟨#[49]⟩) ∧ w'.cell? ⟨g, 0, Option.none⟩ = some (.string ⟨al.toArray⟩) ∧ w'.cell? ⟨g, 1, Option.none⟩ = some (.string ⟨#[49]⟩))) (D := []) (S := (fun _ => True)) (E := []) (by kernel_rfl) ?_ (fun hHeld => ?_)
          · exact ⟨⟨s0', s1', n0.cell 0, n0.cell 1, HC1.out.cell 0, HC1.out.cell 1⟩, trivial⟩
          refine anyE_heldD (i := 0) (d := some 39) (oi := _) (v := ?ev109) rfl rfl (by kernel_rfl) (by kernel_rfl) (by kernel_rfl) (by kernel_rfl) (fun _ _ _ h => h) (Or.inl ⟨by rfl, ?eh109⟩) (by first | exact hHeld | exact And.left hHeld) ?er109
          case eh109 => (intro w hSw; (try dsimp only at hSw); go_simp; try (with_reducible rfl))
          try simp only [Act.put, List.setIfInBounds_toArray, List.set_cons_zero, List.set_cons_succ]
          refine anyE_heldD (i := 1) (d := some 40) (oi := _) (v := ?ev110) rfl rfl (by kernel_rfl) (by kernel_rfl) (by kernel_rfl) (by kernel_rfl) (fun _ _ _ h => h) (Or.inl ⟨by rfl, ?eh110⟩) (by first | exact hHeld | exact And.left hHeld) ?er110
          case eh110 => (intro w hSw; (try dsimp only at hSw); go_simp; try (with_reducible rfl))
          try simp only [Act.put, List.setIfInBounds_toArray, List.set_cons_zero, List.set_cons_succ]
          refine anyE_easyD (i := 3) (d := some 42) (oi := _) (v := ?ev111) rfl rfl (by kernel_rfl) (by kernel_rfl) (by kernel_rfl) (fun _ _ _ h => h) (Or.inl ⟨by rfl, ?eh111⟩) ?er111
          case eh111 => (intro w hSw; (try dsimp only at hSw); go_simp; try (with_reducible rfl))
          try simp only [Act.put, List.setIfInBounds_toArray, List.set_cons_zero, List.set_cons_succ]
          refine anyE_easyD (i := 4) (d := some 43) (oi := _) (v := ?ev112) rfl rfl (by kernel_rfl) (by kernel_rfl) (by kernel_rfl) (fun _ _ _ h => h) (Or.inl ⟨by rfl, ?eh112⟩) ?er112
          case eh112 => (intro w hSw; (try dsimp only at hSw); go_simp; try (with_reducible rfl))
          try simp only [Act.put, List.setIfInBounds_toArray, List.set_cons_zero, List.set_cons_succ]
          refine anyE_easyD (i := 5) (d := some 44) (oi := _) (v := ?ev113) rfl rfl (by kernel_rfl) (by kernel_rfl) (by kernel_rfl) (fun _ _ _ h => h) (Or.inl ⟨by rfl, ?eh113⟩) ?er113
          case eh113 => (intro w hSw; (try dsimp only at hSw); go_simp; try (with_reducible rfl))
          try simp only [Act.put, List.setIfInBounds_toArray, List.set_cons_zero, List.set_cons_succ]
          refine anyE_heldD (i := 6) (d := some 45) (oi := _) (v := ?ev114) rfl rfl (by kernel_rfl) (by kernel_rfl) (by kernel_rfl) (by kernel_rfl) (fun _ _ _ h => h) (Or.inl ⟨by rfl, ?eh114⟩) (by first | exact hHeld | exact And.left hHeld) ?er114
          case eh114 => (intro w hSw; (try dsimp only at hSw); go_simp; try (with_reducible rfl))
          try simp only [Act.put, List.setIfInBounds_toArray, List.set_cons_zero, List.set_cons_succ]
          refine anyE_oneD (i := 2) (o := _) (d := some 41) (by kernel_rfl) rfl rfl (fun K hK => ?_)
          go_simp
          refine (HM.out _ (HS.out.below (below_drew HBW.out) (Nat.le_refl _))).mono ?_
          rintro e w3 ⟨rfl, hb3⟩
          have u0 := (hb3.cell (p := ⟨b2, o2 + k * 2, Option.none⟩) (cell_lt hHeld.1.1)).trans hHeld.1.1
          have u1 := (hb3.cell (p := ⟨b2, o2 + k * 2 + 1, Option.none⟩) (cell_lt hHeld.1.2.1)).trans hHeld.1.2.1
          have u2 := (hb3.cell (p := ⟨wr.heap.size, 0, Option.none⟩) (cell_lt hHeld.1.2.2.1)).trans hHeld.1.2.2.1
          have u3 := (hb3.cell (p := ⟨wr.heap.size, 1, Option.none⟩) (cell_lt hHeld.1.2.2.2.1)).trans hHeld.1.2.2.2.1
          have HC0' := Lib.hid (HC0.out.drew.below hb3 HC0.out.lt)
          have hc1 := HC1.out.drew.below hb3 HC1.out.lt
          have HC1' := Lib.hid hc1
          have HB3 := Lib.hid ((below_drew HBW.out).trans (hb3.mono (below_drew HBW.out).size))
          have v0 := hc1.cell 0
          have v1 := hc1.cell 1
          simp at v0 v1
          clear hb3 hc1
          refine hK.out _ _ ?_ (fun hHeld => ?_)
          · exact ⟨⟨u0, u1, u2, u3, v0, v1⟩, trivial⟩
          by_cases hyz : y = z
          · rw [decide_eq_true hyz] at hne
            have hyl : yl = zl := by simpa using hne
            subst hyl
            have HYZ := Lib.hid hyz
            clear hyz
            refine anyE_easyD (i := 7) (d := some 46) (oi := _) (v := ?ev116) rfl rfl (by kernel_rfl) (by kernel_rfl) (by kernel_rfl) (fun _ _ _ h => h) (Or.inl ⟨by rfl, ?eh116⟩) ?er116
            case eh116 => (intro w hSw; (try dsimp only at hSw); go_simp; try (with_reducible rfl))
            try simp only [Act.put, List.setIfInBounds_toArray, List.set_cons_zero, List.set_cons_succ]
            refine anyE_done (by kernel_rfl) ?_ _
            go_wp2_with fail
            go_roundw
            case rel =>
              refine ⟨_, _, _, _, _, _, _, _, _, _, _, _, _, _, _, _, _, _, ?_, rfl⟩
              refine ⟨k + 1, by omega, by go_num, ⟨fun j h1 h2 => ?_⟩, HC0'.out, HC1'.out, HB3.out⟩
              by_cases hj : j = k
              · subst hj
                rcases HXE.out with ⟨e1, _⟩ | ⟨_, e1⟩
                · omega
                · rw [HZK.out, ← HYZ.out, HY.out, e1, Int.mul_zero]
              · exact HP.out j h1 (by omega)
            case measure => simp [intOf]; omega
          · rw [decide_eq_false hyz] at hne
            have hkz : 0 < k ∧ z ≠ 0 := by
              rcases HXE.out with ⟨e1, e2⟩ | ⟨e1, e2⟩
              · exact (hyz (by rw [HY.out, e2, Int.mul_one]; exact H0Z.out e1)).elim
              · exact ⟨e1, fun h => hyz (by rw [HY.out, e2, Int.mul_zero, h])⟩
            have HPT := Lib.hid (HPF.out hkz.1 hkz.2)
            have hq0 := HC0'.out.cell 0
            have hq1 := HC0'.out.cell 1
            have hf0 := HC0'.out.free 0
            have hf1 := HC0'.out.free 1
            simp at hq0 hq1
            clear hyz hkz
            have hne2 : ¬ yl = zl := by simpa using hne
            refine anyE_easyD (i := 7) (d := some 46) (oi := _) (v := ?ev118) rfl rfl (by kernel_rfl) (by kernel_rfl) (by kernel_rfl) (fun _ _ _ h => h) (Or.inl ⟨by rfl, ?eh118⟩) ?er118
            case eh118 => (intro w hSw; (try dsimp only at hSw); go_simp; try (with_reducible rfl))
            try simp only [Act.put, List.setIfInBounds_toArray, List.set_cons_zero, List.set_cons_succ]
            refine anyE_done (by kernel_rfl) ?_ _
            have HC1f := Lib.hid HC0'.out
            go_wp2_with fail
            refine bodyPost_ret (v := .tuple #[.agg #[.string ⟨al.toArray⟩, .string ⟨#[49]⟩], .bool false]) (by simp (maxDischargeDepth := 10) [results, Tryz.results228, go_sem, hq0, hq1]) rfl ⟨by rw [HPT.out, HAD.out, H0L.out], ?_⟩
            exact (HB3.out.setCell (Nat.le_refl _) _).setCell (Nat.le_refl _) _
        · obtain rfl : k = n + 1 := by omega
          have HPT := Lib.hid <| pureT_true (a := a) (fun j h1 h2 => HP.out j h1 (by rw [← HLEN.out]; exact h2))
          have hf0 := hc0.free 0
          have hf1 := hc0.free 1
          have hq0 := hc0.cell 0
          have hq1 := hc0.cell 1
          have hr0 := hc1.cell 0
          have hr1 := hc1.cell 1
          simp at hq0 hq1 hr0 hr1
          have HBW := Lib.hid hbw
          clear hc0 hc1 hbw
          go_wp2_with fail
          refine bodyPost_ret (v := .tuple #[.agg #[.string ⟨(itoa a0).toArray⟩, .string ⟨#[49]⟩], .bool true]) (by simp (maxDischargeDepth := 10) [results, Tryz.results228, go_sem, hq0, hq1]) rfl ⟨by rw [HPT.out, HAD.out], ?_⟩
          exact (HBW.out.setCell (Nat.le_refl _) _).setCell (Nat.le_refl _) _

end Go.Proofs.YteenfcmnmenigaaGreatDoor

namespace Go.Proofs.YteenfcmnmenigaaGreatDoor
open Go.RowKit Go.Lib

/-- A prime and a factor that the quick quotient bears. -/
def Good (p x : Int) : Prop := 2 ≤ p ∧ p ≤ 1000 ∧ x.natAbs ≤ 20000 ∧ (fastO p.toNat).isSome = true

theorem terms_trm {p x : List Int} : ∀ k, (∀ i, i < k → x[i]?.getD 0 ≠ 0 → Good (p[i]?.getD 0) (x[i]?.getD 0)) →
    ∃ zs : List Trm, trmP zs = nzP p x k ∧ trmF zs = nzF x k ∧ loZ zs = nearLo p x k ∧ hiZ zs = nearHi p x k ∧ zs.length ≤ k
  | 0, _ => ⟨[], rfl, rfl, rfl, rfl, Nat.le_refl _⟩
  | k + 1, h => by
    obtain ⟨zs, h1, h2, h3, h4, h5⟩ := terms_trm k (fun i hi => h i (by omega))
    by_cases hz : x[k]?.getD 0 = 0
    · refine ⟨zs, ?_, ?_, ?_, ?_, by omega⟩
      · unfold nzP at h1 ⊢; rw [nz_zero hz]; exact h1
      · unfold nzF at h2 ⊢; rw [nz_zero hz]; exact h2
      · rw [nearLo, hz, h3]; simp
      · rw [nearHi, hz, h4]; simp
    · obtain ⟨g1, g2, g3, g4⟩ := h k (by omega) hz
      refine ⟨zs ++ [⟨((p[k]?.getD 0).toNat, x[k]?.getD 0), by dsimp only; omega, by dsimp only; omega, g3, g4⟩], ?_, ?_, ?_, ?_, by rw [List.length_append]; simp; omega⟩
      · unfold nzP at h1 ⊢
        rw [nz_more hz, List.map_append, ← h1]
        unfold trmP
        rw [List.map_append]
        simp
        omega
      · unfold nzF at h2 ⊢
        rw [nz_more hz, List.map_append, ← h2]
        unfold trmF
        rw [List.map_append]
        simp
      · rw [loZ_snoc, h3, nearLo]
        dsimp only
        rw [Int.toNat_of_nonneg (by omega)]
        rfl
      · rw [hiZ_snoc, h4, nearHi]
        dsimp only
        rw [Int.toNat_of_nonneg (by omega)]
        rfl

theorem near_uni {p : List Int} (n : Nat) : ∀ k, nearLo p (uni n) (k + 1) = min (lgA (p[0]?.getD 0)) (lgB (p[0]?.getD 0)) ∧ nearHi p (uni n) (k + 1) = max (lgA (p[0]?.getD 0)) (lgB (p[0]?.getD 0))
  | 0 => by simp [nearLo, nearHi, uni]
  | k + 1 => by
    obtain ⟨h1, h2⟩ := near_uni n k
    have e : (uni n)[k + 1]?.getD 0 = 0 := by
      unfold uni
      rw [List.getElem?_cons_succ, List.getElem?_replicate]
      split <;> rfl
    rw [nearLo, nearHi, h1, h2, e]
    simp

/-- The quick quotient by the equave decides, or the interval is a power of the equave: q is the floor. -/
structure FlOk (p x : List Int) (n : Nat) (q : Int) : Prop where
  len : x.length = n + 1
  plen : p.length = n + 1
  le : n ≤ 63
  p0 : Good (p[0]?.getD 0) 1
  good : ∀ i, i < n + 1 → x[i]?.getD 0 ≠ 0 → Good (p[i]?.getD 0) (x[i]?.getD 0)
  small : SmallL x
  dec : (pureT x = true ∧ q = x[0]?.getD 0) ∨ (pureT x = false ∧ quotQ (nearLo p x (n + 1)) (nearHi p x (n + 1)) (lgA (p[0]?.getD 0)) (lgB (p[0]?.getD 0)) = some q)
  qb : -9223372036854775808 ≤ q ∧ q ≤ 9223372036854775807

theorem uni_small (n : Nat) : SmallL (uni n) := by
  intro z hz
  unfold uni at hz
  rcases List.mem_cons.1 hz with rfl | h
  · decide
  · rw [(List.mem_replicate.1 h).2]; decide

theorem lg_pos {p : Int} (h : Good p 1) : 0 < lgA p ∧ lgA p ≤ lgB p := by
  obtain ⟨h1, h2, _, h4⟩ := h
  obtain ⟨a, ha⟩ := Option.isSome_iff_exists.1 h4
  have hk := lgOk h1 h2 ha
  refine ⟨?_, hk.ab⟩
  have h0 := hk.a0
  by_cases h : lgA p = 0
  · exfalso
    have hB : lgB p ≤ 1 := by unfold lgB; split <;> omega
    have h5 := hk.hi
    have h6 : 2 ^ (lgB p).toNat ≤ 2 ^ 1 := Nat.pow_le_pow_right (by omega) (by omega)
    have h7 : 2 ^ NN ≤ p.toNat ^ NN := Nat.pow_le_pow_left (by omega) NN
    have h8 : 2 ^ 2 ≤ 2 ^ NN := Nat.pow_le_pow_right (by omega) (by rw [NN_val]; omega)
    have h9 := Nat.le_trans h8 (Nat.le_trans h7 (Nat.le_trans h5 h6))
    exact absurd h9 (by decide)
  · omega

end Go.Proofs.YteenfcmnmenigaaGreatDoor
