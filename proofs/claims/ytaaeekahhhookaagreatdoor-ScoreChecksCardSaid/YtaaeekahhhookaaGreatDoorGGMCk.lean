import Derived.Test.YtaaeekahhhookaaGreatDoorFSgMCk
import Derived.Deep.RegionHeld3
import Derived.Deep.AppendLies
namespace Go.Proofs.YtaaeekahhhookaaGreatDoor
open Go.RowKit Go.Lib
def sameB (x y : List Int) : Bool := decide (x = y)
theorem same_upto {x y : List Int} {k : Nat} (hl : x.length = y.length) (h : x.take k = y.take k) (hk : k < x.length) (he : x[k]?.getD 0 = y[k]?.getD 0) : x.take (k + 1) = y.take (k + 1) := by
 rw [List.take_succ_eq_append_getElem hk, List.take_succ_eq_append_getElem (by omega), h]
 rw [List.getElem?_eq_getElem hk, List.getElem?_eq_getElem (by omega)] at he
 simp at he
 rw [he]
set_option maxHeartbeats 1000000 in
theorem same_any (xv yv : Value) (x y : List Int) (w : World) (hx : IsRow w w.heap.size xv x) (hy : IsRow w w.heap.size yv y) :
  Calls Tryz.prog 34 #[xv, yv] w fun e w' => e = .returned (.bool (sameB x y)) ∧ Below w.heap.size w w' := by
 have HS : Hid (sameB x y = decide (x = y)) := rfl
 obtain ⟨AX, cx, rfl, hxc, hxm, hxr⟩ := hx
 obtain ⟨AY, cy, rfl, hyc, hym, hyr⟩ := hy
 unfold maxLen at hxm hym
 by_cases hl : x.length = y.length
 ·have hne : ((x.length : Int) != (y.length : Int)) = false := by simp [hl]
  have HL := Lib.hid hl
  have hxl : x.length ≤ 9223372036854775807 := by omega
  clear hl hxc hyc hxm hym
  go_enter Tryz.func34, Tryz.ntmps34
  go_wp2
  go_loopw [5] (fun i wr => ∃ k : Nat, k ≤ x.length ∧ i = .int .i64 k ∧ Box (x.take k = y.take k) ∧ Below w.heap.size w wr) (fun i _ => x.length - (intOf i).toNat)
  case atStart => exact ⟨0, Nat.zero_le _, rfl, ⟨by simp⟩, Below.refl _ _⟩
  case round =>
   obtain ⟨k, hk, rfl, HT, hbw⟩ := hrel
   by_cases hlt : k < x.length
   ·obtain ⟨ad1, rfl, _, hc1⟩ := (hxr.below hbw (Nat.le_refl _)).i_at hlt
    have hly : k < y.length := by rw [← HL.out]; exact hlt
    obtain ⟨ad2, rfl, _, hc2⟩ := (hyr.below hbw (Nat.le_refl _)).i_at hly
    have hup := fun he => same_upto HL.out HT.out hlt he
    have hdn : x[k]?.getD 0 ≠ y[k]?.getD 0 → x ≠ y := fun h e => h (by rw [e])
    generalize x[k]?.getD 0 = a at *
    generalize y[k]?.getD 0 = b at *
    have HU := Lib.hid hup
    have HDN := Lib.hid hdn
    clear hup hdn
    have hk1 : (0 : Int) ≤ (k : Int) := by omega
    have hk2 : (k : Int) < (x.length : Int) := by omega
    have hk3 : (k : Int) < (y.length : Int) := by omega
    by_cases hab : a = b
    ·have hab' : (a != b) = false := by simp [hab]
     have HAB : Box (a = b) := ⟨hab⟩
     clear hab
     go_wp2
     go_quiet (fail)
     go_wp2
     go_roundw
     case rel => exact ⟨k + 1, by omega, by go_num, ⟨HU.out HAB.out⟩, below_drewN hbw _⟩
     case measure => simp [intOf]; omega
    ·have hab' : (a != b) = true := by simp [hab]
     have HE : Box (sameB x y = false) := ⟨by rw [HS.out, decide_eq_false (HDN.out hab)]⟩
     go_wp2
     go_quiet (fail)
     go_wp2
     go_ret
     exact ⟨ret1 (congrArg Value.bool HE.out.symm), below_drewN hbw _⟩
   ·obtain rfl : k = x.length := by omega
    have HE : Box (sameB x y = true) := ⟨by
     have h := HT.out
     rw [List.take_of_length_le (Nat.le_refl _), List.take_of_length_le (by rw [HL.out]; exact Nat.le_refl _)] at h
     rw [HS.out, decide_eq_true h]⟩
    go_wp2
    go_ret
    exact ⟨ret1 (congrArg Value.bool HE.out.symm), hbw⟩
 ·have hne : ((x.length : Int) != (y.length : Int)) = true := by rw [bne_iff_ne]; omega
  have HE : Box (sameB x y = false) := ⟨by rw [HS.out, decide_eq_false (fun e => hl (by rw [e]))]⟩
  go_enter Tryz.func34, Tryz.ntmps34
  go_wp2
  go_ret
  exact ⟨ret1 (congrArg Value.bool HE.out.symm), Below.refl _ _⟩
theorem itoa_short (z : Int) (h : -1000000000 ≤ z ∧ z ≤ 1000000000) : (itoa z).length ≤ 11 := by
 have h1 := itoa_len z
 rw [dec_length] at h1
 have := nDigits_le (u := z.natAbs) (k := 10) (by omega) (by omega)
 omega
theorem inter_len (sep : List UInt8) : ∀ (l : List (List UInt8)) (m : Nat), (∀ s ∈ l, s.length ≤ m) → (sep.intercalate l).length ≤ l.length * (m + sep.length)
 | [], m, _ => by simp [List.intercalate]
 | [a], m, h => by
   have := h a (by simp)
   simp [List.intercalate]
   omega
 | a :: b :: l, m, h => by
   have h1 := h a (by simp)
   have h2 := inter_len sep (b :: l) m (fun s hs => h s (by simp [hs]))
   have e : sep.intercalate (a :: b :: l) = a ++ (sep ++ sep.intercalate (b :: l)) := by simp [List.intercalate, List.intersperse]
   rw [e]
   simp only [List.length_append, List.length_cons] at *
   rw [Nat.add_mul (l.length + 1) 1]
   omega
theorem rowTxt_len {x : List Int} (h64 : x.length ≤ 64) (h : ∀ k, k < x.length → -1000000000 ≤ x[k]?.getD 0 ∧ x[k]?.getD 0 ≤ 1000000000) : (rowTxt x).length ≤ 1000 := by
 have h1 := inter_len [32] (words x) 11 (fun s hs => by
  obtain ⟨z, hz, rfl⟩ := List.mem_map.1 hs
  obtain ⟨k, hk, rfl⟩ := List.getElem_of_mem hz
  have := h k hk
  rw [List.getElem?_eq_getElem hk] at this
  exact itoa_short _ (by simpa using this))
 have h2 : (words x).length = x.length := by simp [words]
 rw [h2] at h1
 have h3 : x.length * (11 + [(32 : UInt8)].length) ≤ 64 * 12 := Nat.mul_le_mul h64 (by simp)
 unfold rowTxt Lib.join
 omega
theorem d4 : decDigits 4 = [52] := by rw [dec_small (by omega)]; rfl
theorem d1 : decDigits 1 = [49] := by rw [dec_small (by omega)]; rfl
theorem kp : primeErr [2, 3, 5] = 0 := by decide
def timesTo (x : List Int) (k : Int) : Nat → List Int
 | 0 => []
 | j + 1 => timesTo x k j ++ [k * x[j]?.getD 0]
theorem timesTo_len (x : List Int) (k : Int) : ∀ j, (timesTo x k j).length = j
 | 0 => rfl
 | j + 1 => by rw [timesTo, List.length_append, timesTo_len x k j]; rfl
def sumTo (x y : List Int) (k : Int) : Nat → List Int
 | 0 => []
 | j + 1 => sumTo x y k j ++ [x[j]?.getD 0 + k * y[j]?.getD 0]
theorem sumTo_len (x y : List Int) (k : Int) : ∀ j, (sumTo x y k j).length = j
 | 0 => rfl
 | j + 1 => by rw [sumTo, List.length_append, sumTo_len x y k j]; rfl
structure SmallRow (p : List Int) (m : Int) (x : List Int) : Prop where
 len : x.length = p.length
 le : ∀ j, j < x.length → -m ≤ x[j]?.getD 0 ∧ x[j]?.getD 0 ≤ m
theorem SmallRow.chk {p x : List Int} {m : Int} (h : SmallRow p m x) (hp : primeErr p = 0) (hm : m ≤ 1000) : chkAll p [x] = 0 := by
 refine chk_small hp h.len fun v hv => ?_
 obtain ⟨j, hj, rfl⟩ := List.getElem_of_mem hv
 have := h.le j hj
 rw [List.getElem?_eq_getElem hj] at this
 simp at this
 omega
theorem sumTo_get (x y : List Int) (k : Int) (j : Nat) : ∀ n, j < n → (sumTo x y k n)[j]?.getD 0 = x[j]?.getD 0 + k * y[j]?.getD 0
 | 0, h => by omega
 | n + 1, h => by
   rw [sumTo]
   by_cases hj : j < n
   ·rw [List.getElem?_append_left (by rw [sumTo_len]; exact hj), sumTo_get x y k j n hj]
   ·obtain rfl : j = n := by omega
    rw [List.getElem?_append_right (by rw [sumTo_len]; exact Nat.le_refl _), sumTo_len]
    simp
theorem timesTo_get (x : List Int) (k : Int) (j : Nat) : ∀ n, j < n → (timesTo x k n)[j]?.getD 0 = k * x[j]?.getD 0
 | 0, h => by omega
 | n + 1, h => by
   rw [timesTo]
   by_cases hj : j < n
   ·rw [List.getElem?_append_left (by rw [timesTo_len]; exact hj), timesTo_get x k j n hj]
   ·obtain rfl : j = n := by omega
    rw [List.getElem?_append_right (by rw [timesTo_len]; exact Nat.le_refl _), timesTo_len]
    simp
theorem SmallRow.sum {p x y : List Int} {a b : Int} (hx : SmallRow p a x) (hy : SmallRow p b y) (k : Int) (hk : k = 1 ∨ k = -1) : SmallRow p (a + b) (sumTo x y k x.length) := by
 refine ⟨by rw [sumTo_len]; exact hx.len, fun j hj => ?_⟩
 rw [sumTo_len] at hj
 rw [sumTo_get x y k j _ hj]
 have h1 := hx.le j hj
 have h2 := hy.le j (by rw [hy.len, ← hx.len]; exact hj)
 rcases hk with rfl | rfl <;> omega
theorem SmallRow.neg {p x : List Int} {a : Int} (hx : SmallRow p a x) : SmallRow p a (timesTo x (-1) x.length) := by
 refine ⟨by rw [timesTo_len]; exact hx.len, fun j hj => ?_⟩
 rw [timesTo_len] at hj
 rw [timesTo_get x (-1) j _ hj]
 have h1 := hx.le j hj
 omega
def primeTable : List (List Int) := [[2, 3, 5], [2, 3, 5, 7], [2, 3], [2, 3, 7], [2, 5, 7], [3, 5, 7], [2, 3, 5, 11], [2], [2, 3, 7, 13], [3, 5, 7, 13]]
def primesOf (n : Nat) : List Int := primeTable.getD (n % 10) []
theorem primes_all : ∀ k, k < 10 → primeErr (primeTable.getD k []) = 0 ∧ (primeTable.getD k []).length ≤ 4 := by decide +kernel
theorem primesOf_ok (n : Nat) : primeErr (primesOf n) = 0 ∧ (primesOf n).length ≤ 4 := primes_all _ (Nat.mod_lt _ (by omega))
def allocs (w : World) : List Obj → World
 | [] => w
 | o :: r => allocs (w.alloc o) r
theorem allocs_heap : ∀ (os : List Obj) (w : World) (i : Nat) (o : Obj), os[i]? = some o → (allocs w os).heap[w.heap.size + i]? = some o
 | [], _, _, _, h => by simp at h
 | a :: r, w, 0, o, h => by
   simp at h
   subst h
   have hb := allocs_below r (w.alloc a) 
   rw [allocs, hb.block (w.heap.size + 0) (by simp)]
   exact heap_alloc_new w a
 | a :: r, w, i + 1, o, h => by
   have := allocs_heap r (w.alloc a) i o (by simpa using h)
   rw [World.size_alloc] at this
   rw [allocs, ← this]
   congr 1
   omega
where
 allocs_below : ∀ (os : List Obj) (w : World), Below w.heap.size w (allocs w os)
  | [], w => Below.refl _ _
  | a :: r, w => ((Below.refl w.heap.size w).alloc (Nat.le_refl _) a).trans ((allocs_below r (w.alloc a)).mono (by simp))
def primeObjs (w : World) : List Obj := [.cells #[.int .i64 2, .int .i64 3, .int .i64 5] 3, .cells #[.int .i64 2, .int .i64 3, .int .i64 5, .int .i64 7] 3, .cells #[.int .i64 2, .int .i64 3] 3, .cells #[.int .i64 2, .int .i64 3, .int .i64 7] 3, .cells #[.int .i64 2, .int .i64 5, .int .i64 7] 3, .cells #[.int .i64 3, .int .i64 5, .int .i64 7] 3, .cells #[.int .i64 2, .int .i64 3, .int .i64 5, .int .i64 11] 3, .cells #[.int .i64 2] 3, .cells #[.int .i64 2, .int .i64 3, .int .i64 7, .int .i64 13] 3, .cells #[.int .i64 3, .int .i64 5, .int .i64 7, .int .i64 13] 3, .cells #[Value.slice (some ⟨w.heap.size, 0, Option.none⟩) 3 3, Value.slice (some ⟨w.heap.size + 1, 0, Option.none⟩) 4 4, Value.slice (some ⟨w.heap.size + 1 + 1, 0, Option.none⟩) 2 2, Value.slice (some ⟨w.heap.size + 1 + 1 + 1, 0, Option.none⟩) 3 3, Value.slice (some ⟨w.heap.size + 1 + 1 + 1 + 1, 0, Option.none⟩) 3 3, Value.slice (some ⟨w.heap.size + 1 + 1 + 1 + 1 + 1, 0, Option.none⟩) 3 3, Value.slice (some ⟨w.heap.size + 1 + 1 + 1 + 1 + 1 + 1, 0, Option.none⟩) 4 4, Value.slice (some ⟨w.heap.size + 1 + 1 + 1 + 1 + 1 + 1 + 1, 0, Option.none⟩) 1 1, Value.slice (some ⟨w.heap.size + 1 + 1 + 1 + 1 + 1 + 1 + 1 + 1, 0, Option.none⟩) 4 4, Value.slice (some ⟨w.heap.size + 1 + 1 + 1 + 1 + 1 + 1 + 1 + 1 + 1, 0, Option.none⟩) 4 4] 26]
theorem primes_row (w : World) : ∀ k, k < 10 → Cells (allocs w (primeObjs w)) (w.heap.size + k) 3 (is (primeTable.getD k []))
 | 0, _ => allocs_heap (primeObjs w) w 0 _ rfl
 | 1, _ => allocs_heap (primeObjs w) w 1 _ rfl
 | 2, _ => allocs_heap (primeObjs w) w 2 _ rfl
 | 3, _ => allocs_heap (primeObjs w) w 3 _ rfl
 | 4, _ => allocs_heap (primeObjs w) w 4 _ rfl
 | 5, _ => allocs_heap (primeObjs w) w 5 _ rfl
 | 6, _ => allocs_heap (primeObjs w) w 6 _ rfl
 | 7, _ => allocs_heap (primeObjs w) w 7 _ rfl
 | 8, _ => allocs_heap (primeObjs w) w 8 _ rfl
 | 9, _ => allocs_heap (primeObjs w) w 9 _ rfl
theorem primes_get (w : World) : ∀ k, k < 10 → [Value.slice (some ⟨w.heap.size, 0, Option.none⟩) 3 3, Value.slice (some ⟨w.heap.size + 1, 0, Option.none⟩) 4 4, Value.slice (some ⟨w.heap.size + 1 + 1, 0, Option.none⟩) 2 2, Value.slice (some ⟨w.heap.size + 1 + 1 + 1, 0, Option.none⟩) 3 3, Value.slice (some ⟨w.heap.size + 1 + 1 + 1 + 1, 0, Option.none⟩) 3 3, Value.slice (some ⟨w.heap.size + 1 + 1 + 1 + 1 + 1, 0, Option.none⟩) 3 3, Value.slice (some ⟨w.heap.size + 1 + 1 + 1 + 1 + 1 + 1, 0, Option.none⟩) 4 4, Value.slice (some ⟨w.heap.size + 1 + 1 + 1 + 1 + 1 + 1 + 1, 0, Option.none⟩) 1 1, Value.slice (some ⟨w.heap.size + 1 + 1 + 1 + 1 + 1 + 1 + 1 + 1, 0, Option.none⟩) 4 4, Value.slice (some ⟨w.heap.size + 1 + 1 + 1 + 1 + 1 + 1 + 1 + 1 + 1, 0, Option.none⟩) 4 4][k]? = some (.slice (some ⟨w.heap.size + k, 0, Option.none⟩) (primeTable.getD k []).length (primeTable.getD k []).length)
 | 0, _ => rfl
 | 1, _ => rfl
 | 2, _ => rfl
 | 3, _ => rfl
 | 4, _ => rfl
 | 5, _ => rfl
 | 6, _ => rfl
 | 7, _ => rfl
 | 8, _ => rfl
 | 9, _ => rfl
def ivlTo (l : List Int) : Nat → List Int
 | 0 => []
 | j + 1 => ivlTo l j ++ [(l[j]?.getD 0).tmod 10]
theorem ivlTo_len (l : List Int) : ∀ j, (ivlTo l j).length = j
 | 0 => rfl
 | j + 1 => by rw [ivlTo, List.length_append, ivlTo_len l j]; rfl
theorem ivlTo_get (l : List Int) (j : Nat) : ∀ n, j < n → (ivlTo l n)[j]?.getD 0 = (l[j]?.getD 0).tmod 10
 | 0, h => by omega
 | n + 1, h => by
   rw [ivlTo]
   by_cases hj : j < n
   ·rw [List.getElem?_append_left (by rw [ivlTo_len]; exact hj), ivlTo_get l j n hj]
   ·obtain rfl : j = n := by omega
    rw [List.getElem?_append_right (by rw [ivlTo_len]; exact Nat.le_refl _), ivlTo_len]
    simp
structure Four (l : List Int) : Prop where
 len : l.length = 4
 le : ∀ j, j < 4 → -128 ≤ l[j]?.getD 0 ∧ l[j]?.getD 0 ≤ 127
theorem tmod_bound (z : Int) : -9 ≤ z.tmod 10 ∧ z.tmod 10 ≤ 9 := by
 have := Int.tmod_lt_of_pos z (show (0 : Int) < 10 by omega)
 have h2 : (-z).tmod 10 = -(z.tmod 10) := Int.neg_tmod ..
 have := Int.tmod_lt_of_pos (-z) (show (0 : Int) < 10 by omega)
 omega
theorem ivl_small {p l : List Int} : SmallRow p 9 (ivlTo l p.length) :=
 ⟨ivlTo_len _ _, fun j hj => by rw [ivlTo_len] at hj; rw [ivlTo_get l j _ hj]; exact tmod_bound _⟩
theorem four_cell {w w' : World} {t : TypeId} {a b c d : Int} {j : Nat} (hb : Below (w.heap.size + 1) (w.alloc (.cells #[.int .i8 a, .int .i8 b, .int .i8 c, .int .i8 d] t)) w') (hj : j < 4) : w'.cell? ⟨w.heap.size, j, Option.none⟩ = some (.int .i8 ([a, b, c, d][j]?.getD 0)) := by
 rw [hb.cell (p := ⟨w.heap.size, j, Option.none⟩) (by simp), World.cell?_alloc_new]
 match j, hj with
 | 0, _ => rfl
 | 1, _ => rfl
 | 2, _ => rfl
 | 3, _ => rfl
end Go.Proofs.YtaaeekahhhookaaGreatDoor
