import Derived.WalkKit
import Derived.WalkSpells
import Derived.WalkLawsBesides
import Derived.Below
import Derived.Laws.OwnMore
import Derived.Deep.AppendLies
import Derived.Deep.Draws
import Derived.Laws.Rows
import Derived.Maps.AppendAt
import Derived.RegionTactic
import Derived.OwnWalk
import Derived.Lib.Hide
import Derived.Test.YtaaeekahhhookaaGreatDoorProg
import Derived.Test.YtaaeekahhhookaaGreatDoorGACk
import Derived.Lib.ConvBytes
import Derived.Laws.IdiomStrings
import Derived.Lib.Strings
import Derived.Deep.QuietTactic
import Derived.BigQuiet
import Derived.IntWalk
namespace Go.Proofs.YtaaeekahhhookaaGreatDoor
open Go.RowKit
structure Box (p : Prop) : Prop where
 out : p
theorem add_block (a : Addr) (n : Nat) : (a.add n).block = a.block := by unfold Addr.add; split <;> rfl
theorem add_add' (a : Addr) (i j : Nat) : (a.add i).add j = a.add (i + j) := by
 unfold Addr.add
 by_cases hi : i = 0 <;> by_cases hj : j = 0 <;> simp [hi, hj, Nat.add_assoc]
structure Row (w : World) (B size : Nat) (A : Option Addr) (n : Nat) (xs : List Value) : Prop where
 len : xs.length = n * size
 get : ∀ k u, xs[k]? = some u → ∃ ad, A = some ad ∧ ad.block < B ∧ w.cell? (ad.add k) = some u
section
variable {w w' : World} {B B' size n : Nat} {A : Option Addr} {xs : List Value}
theorem Row.nil (w : World) (B size : Nat) (A : Option Addr) : Row w B size A 0 [] := ⟨by simp, fun k u h => by simp at h⟩
theorem Row.keep (h : Row w B size A n xs) (hk : ∀ p : Addr, p.block < B → w'.cell? p = w.cell? p) : Row w' B size A n xs :=
 ⟨h.len, fun k u hu => by
   obtain ⟨ad, e, hb, hc⟩ := h.get k u hu
   exact ⟨ad, e, hb, (hk _ (by rw [add_block]; exact hb)).trans hc⟩⟩
theorem Row.up (h : Row w B size A n xs) (hB : B ≤ B') : Row w B' size A n xs :=
 ⟨h.len, fun k u hu => by
   obtain ⟨ad, e, hb, hc⟩ := h.get k u hu
   exact ⟨ad, e, Nat.lt_of_lt_of_le hb hB, hc⟩⟩
theorem Row.below {C : Nat} (h : Row w B size A n xs) (hb : Below C w w') (hC : B ≤ C) : Row w' B size A n xs := h.keep fun _ hp => hb.cell (Nat.lt_of_lt_of_le hp hC)
theorem Row.drew (h : Row w B size A n xs) : Row w.drew B size A n xs := h.keep fun _ _ => rfl
theorem Row.drewN (h : Row w B size A n xs) (k : Nat) : Row (w.drewN k) B size A n xs := h.keep fun _ _ => rfl
theorem Row.alloc (h : Row w B size A n xs) (hB : B ≤ w.heap.size) (o : Obj) : Row (w.alloc o) B size A n xs := h.keep fun p hp => World.cell?_alloc_lt w o p (by omega)
theorem Row.setCell (h : Row w B size A n xs) {p : Addr} (hB : B ≤ p.block) (u : Value) : Row (w.setCell p u) B size A n xs :=
 h.keep fun q hq => World.cell?_setCell_other w p q u (fun e => by subst e; omega)
theorem Row.grown (h : Row w B size A n xs) {row : Option Nat} (hg : w.grownBy w' row) (hB : B ≤ w.heap.size) (hr : ∀ g, row = some g → B ≤ g) : Row w' B size A n xs :=
 h.keep fun p hp => World.cell?_of_block (hg.block p.block (by omega) (fun e => by have := hr _ e.symm; omega))
theorem Row.take (h : Row w B 1 A n xs) {k : Nat} (hk : k ≤ n) : Row w B 1 A k (xs.take k) :=
 ⟨by rw [List.length_take, h.len]; omega, fun j u hu => h.get j u (by
   rw [List.getElem?_take] at hu
   split at hu
   ·exact hu
   ·cases hu)⟩
theorem Row.of_own {base : Nat} {e : TypeId} {v : Value} (h : w.ownsRow base e size v n xs) : ∃ A c, v = .slice A n c ∧ n ≤ c ∧ c ≤ maxLen ∧ Row w w.heap.size size A n xs := by
 rcases h.2 with ⟨rfl, rfl⟩ | ⟨g, cap, cur, rfl, _, hg, hn, hc, hs, ht⟩
 ·exact ⟨Option.none, 0, rfl, Nat.le_refl _, Nat.zero_le _, h.1, fun k u hu => by
   have := h.1
   simp at this
   subst this
   simp at hu⟩
 ·refine ⟨some ⟨g, 0, Option.none⟩, cap, rfl, hn, hc, h.1, fun k u hu => ⟨_, rfl, (Array.getElem?_eq_some_iff.1 hg).1, ?_⟩⟩
  have hk : k < xs.length := (List.getElem?_eq_some_iff.1 hu).1
  have e : (⟨g, 0, Option.none⟩ : Addr).add k = ⟨g, k, Option.none⟩ := by unfold Addr.add; split <;> simp_all
  rw [e, cell_of_row w g k cur _ (0, 0) hg, ← hu, ← ht, List.getElem?_take, if_pos (by rw [h.1] at hk; exact hk)]
  simp
end
def Cells (w : World) (g : Nat) (e : TypeId) (xs : List Value) : Prop := w.heap[g]? = some (.cells xs.toArray e (0, 0))
section
variable {w w' : World} {g : Nat} {e : TypeId} {xs : List Value}
theorem Cells.lt (h : Cells w g e xs) : g < w.heap.size := (Array.getElem?_eq_some_iff.1 h).1
theorem Cells.cell (h : Cells w g e xs) (k : Nat) : w.cell? ⟨g, k, Option.none⟩ = xs[k]? := by
 rw [cell_of_row w g k xs.toArray e (0, 0) h]; simp
theorem Cells.free (h : Cells w g e xs) (k : Nat) : w.frozen? ⟨g, k, Option.none⟩ = false := by
 unfold Cells at h
 simp [World.frozen?, h]
theorem Cells.new (w : World) (e : TypeId) (cs : Array Value) : Cells (w.alloc (.cells cs e)) w.heap.size e cs.toList := by
 unfold Cells
 rw [heap_alloc_new]
theorem Cells.set (h : Cells w g e xs) (k : Nat) (u : Value) : Cells (w.setCell ⟨g, k, Option.none⟩ u) g e (xs.set k u) := by
 unfold Cells at h ⊢
 simp [World.setCell, Array.getElem?_modify, h]
theorem Cells.far (h : Cells w g e xs) {p : Addr} (hp : g ≠ p.block) (u : Value) : Cells (w.setCell p u) g e xs := (Below.heap_setCell w p u g hp).trans h
theorem Cells.alloc (h : Cells w g e xs) (o : Obj) : Cells (w.alloc o) g e xs := (Below.heap_alloc w o g h.lt).trans h
theorem Cells.drew (h : Cells w g e xs) : Cells w.drew g e xs := h
theorem Cells.drewN (h : Cells w g e xs) (n : Nat) : Cells (w.drewN n) g e xs := h
theorem Cells.below {B : Nat} (h : Cells w g e xs) (hb : Below B w w') (hg : g < B) : Cells w' g e xs := (hb.block g hg).trans h
theorem Cells.of_full {base n : Nat} (h : w.ownsRow base e 1 (.slice (some ⟨g, 0, Option.none⟩) n n) n xs) : Cells w g e xs := by
 rcases h.2 with ⟨h0, _⟩ | ⟨g', cap, cur, hv, _, hg, _, _, hs, ht⟩
 ·cases h0
 ·cases hv
  unfold Cells
  rw [hg, ← ht, List.take_of_length_le (by rw [Array.length_toList, hs]; exact Nat.le_refl _)]
theorem Cells.own {base n k : Nat} (h : Cells w g e xs) (hb : base ≤ g) (hn : xs.length = n) (hm : n ≤ maxLen) (hk : k ≤ n) :
  w.ownsRow base e 1 (.slice (some ⟨g, 0, Option.none⟩) k n) k (xs.take k) :=
 ⟨by rw [List.length_take, hn]; omega, .inr ⟨g, n, xs.toArray, rfl, hb, h, hk, hm, by simp [hn], by simp⟩⟩
theorem Cells.row {B n : Nat} (h : Cells w g e xs) (hB : g < B) (hn : xs.length = n) : Row w B 1 (some ⟨g, 0, Option.none⟩) n xs :=
 ⟨by omega, fun k u hu => ⟨_, rfl, hB, by
   rw [show (⟨g, 0, Option.none⟩ : Addr).add k = ⟨g, k, Option.none⟩ by unfold Addr.add; split <;> simp_all, h.cell k, hu]⟩⟩
end
theorem own_below {w w' : World} {base : Nat} {e : TypeId} {size : Nat} {v : Value} {n : Nat} {xs : List Value} (h : w.ownsRow base e size v n xs) (hb : Below w.heap.size w w') : w'.ownsRow base e size v n xs := by
 refine ⟨h.1, ?_⟩
 rcases h.2 with h0 | ⟨g, cap, cur, a, b, c, d⟩
 ·exact .inl h0
 ·exact .inr ⟨g, cap, cur, a, b, (hb.block g (Array.getElem?_eq_some_iff.1 c).1).trans c, d⟩
theorem own_base {w : World} {base base' : Nat} {e : TypeId} {size : Nat} {v : Value} {n : Nat} {xs : List Value} (h : w.ownsRow base e size v n xs) (hb : base' ≤ base) : w.ownsRow base' e size v n xs := by
 refine ⟨h.1, ?_⟩
 rcases h.2 with h0 | ⟨g, cap, cur, a, b, c⟩
 ·exact .inl h0
 ·exact .inr ⟨g, cap, cur, a, by omega, c⟩
theorem own_ne {w : World} {base : Nat} {e : TypeId} {size : Nat} {v : Value} {n : Nat} {xs : List Value} (h : w.ownsRow base e size v n xs) (hn : 0 < n) : v ≠ .slice Option.none 0 0 := by
 rcases h.2 with ⟨_, h0⟩ | ⟨g, cap, cur, rfl, _⟩
 ·omega
 ·simp
theorem own_take {w : World} {base : Nat} {e : TypeId} {A : Option Addr} {n c : Nat} {xs : List Value} (h : w.ownsRow base e 1 (.slice A n c) n xs) {k : Nat} (hk : k ≤ n) : w.ownsRow base e 1 (.slice A k c) k (xs.take k) := by
 refine ⟨by rw [List.length_take, h.1]; omega, ?_⟩
 rcases h.2 with ⟨hv, hn⟩ | ⟨g, cap, cur, hv, b, hc, hn, hm, hs, ht⟩
 ·cases hv
  exact .inl ⟨by rw [show k = 0 by omega], by omega⟩
 ·cases hv
  refine .inr ⟨g, c, cur, rfl, b, hc, by omega, hm, hs, ?_⟩
  rw [← ht, List.take_take]
  congr 1
  omega
def lenV : Value → Nat | .slice _ n _ => n | _ => 0
def us (l : List Nat) : List Value := l.map fun n => Value.int .u64 (Int.ofNat n)
def is (l : List Int) : List Value := l.map fun n => Value.int .i64 n
theorem us_length (l : List Nat) : (us l).length = l.length := by simp [us]
theorem is_length (l : List Int) : (is l).length = l.length := by simp [is]
theorem us_append (a b : List Nat) : us (a ++ b) = us a ++ us b := by simp [us]
theorem is_append (a b : List Int) : is (a ++ b) = is a ++ is b := by simp [is]
theorem us_take (l : List Nat) (k : Nat) : us (l.take k) = (us l).take k := by simp [us]
theorem Row.u_at {w : World} {B n k : Nat} {A : Option Addr} {l : List Nat} (h : Row w B 1 A n (us l)) (hk : k < n) :
  ∃ ad, A = some ad ∧ ad.block < B ∧ w.cell? (ad.add k) = some (.int .u64 ((l[k]?.getD 0 : Nat) : Int)) := by
 have hl : k < l.length := by have := h.len; rw [us_length] at this; omega
 obtain ⟨ad, e, hb, hc⟩ := h.get k (.int .u64 ((l[k] : Nat) : Int)) (by unfold us; rw [List.getElem?_map, List.getElem?_eq_getElem hl]; rfl)
 exact ⟨ad, e, hb, by rw [hc, List.getElem?_eq_getElem hl]; rfl⟩
theorem Row.i_at {w : World} {B n k : Nat} {A : Option Addr} {l : List Int} (h : Row w B 1 A n (is l)) (hk : k < n) :
  ∃ ad, A = some ad ∧ ad.block < B ∧ w.cell? (ad.add k) = some (.int .i64 (l[k]?.getD 0)) := by
 have hl : k < l.length := by have := h.len; rw [is_length] at this; omega
 obtain ⟨ad, e, hb, hc⟩ := h.get k (.int .i64 l[k]) (by unfold is; rw [List.getElem?_map, List.getElem?_eq_getElem hl]; rfl)
 exact ⟨ad, e, hb, by rw [hc, List.getElem?_eq_getElem hl]; rfl⟩
end Go.Proofs.YtaaeekahhhookaaGreatDoor
namespace Go.Proofs.YtaaeekahhhookaaGreatDoor
open Go.RowKit
theorem trim_len (l : List Nat) (k n : Nat) (hl : Pcs l) (hn' : l.length = n) (hk : k ≤ n) (hz : ∀ j, k ≤ j → j < n → l[j]?.getD 0 = 0) (hn : k = 0 ∨ l[k - 1]?.getD 0 ≠ 0) : k = (pcs (pv l)).length := by
 subst hn'
 rw [← trim_eq l k hl hk hz hn, List.length_take, Nat.min_eq_left hk]
theorem ret_slice {A : Option Addr} {n m c : Nat} (h : n = m) : Ending.returned (.slice A n c) = .returned (.slice A m c) := by rw [h]
set_option maxHeartbeats 400000 in
theorem trim_any (A : Option Addr) (n c B : Nat) (l : List Nat) (w : World) (hr : Row w B 1 A n (us l)) (hn : n ≤ c) (hc : c ≤ maxLen) (hp : Pcs l) :
  Calls Tryz.prog 233 #[.slice A n c] w fun e w' => e = .returned (.slice A (pcs (pv l)).length c) ∧ w = w' := by
 unfold maxLen at hc
 have hlen : l.length = n := by have := hr.len; rw [us_length] at this; omega
 have HL := Lib.hid hlen
 clear hlen
 go_enter Tryz.func233, Tryz.ntmps233
 go_wp2
 go_loop [0] (fun v => ∃ k, k ≤ n ∧ v = .slice A k c ∧ ∀ j, k ≤ j → j < n → l[j]?.getD 0 = 0) (fun v => lenV v)
 case atStart => exact ⟨n, Nat.le_refl _, rfl, fun j h1 h2 => by omega⟩
 case round =>
  obtain ⟨k, hk, rfl, hz⟩ := hrel
  have HZ := Lib.hid hz
  clear hz
  by_cases h0 : k = 0
  ·subst h0
   clear hr
   go_wp2
   go_ret
   exact ⟨ret_slice (trim_len l 0 n hp HL.out (by omega) HZ.out (.inl rfl)), rfl⟩
  ·obtain ⟨ad, rfl, _, hcell⟩ := hr.u_at (k := k - 1) (by omega)
   clear hr
   generalize hx : l[k - 1]?.getD 0 = x at hcell
   have HX := Lib.hid hx
   clear hx
   have hk1 : 1 ≤ k := by omega
   by_cases hv : x = 0
   ·subst hv
    go_wp2
    go_round
    case rel =>
     refine ⟨k - 1, by omega, by go_num, fun j h1 h2 => ?_⟩
     by_cases hj : j = k - 1
     ·rw [hj]; exact HX.out
     ·exact HZ.out j (by omega) h2
    case measure => simp [lenV]; omega
   ·have hx0 : (((x : Nat) : Int) == 0) = false := by simp; omega
    go_wp2
    go_ret
    exact ⟨ret_slice (trim_len l k n hp HL.out hk HZ.out (.inr (by rw [HX.out]; exact hv))), rfl⟩
theorem us_set (l : List Nat) (k v : Nat) : (us l).set k (.int .u64 (v : Int)) = us (l.set k v) := by
 unfold us
 rw [List.map_set]; rfl
theorem us_get (l : List Nat) (k : Nat) (h : k < l.length) : (us l)[k]? = some (.int .u64 ((l[k]?.getD 0 : Nat) : Int)) := by
 unfold us
 rw [List.getElem?_map, List.getElem?_eq_getElem h]; rfl
theorem cells_set_u {w : World} {g : Nat} {e : TypeId} {o : List Nat} (h : Cells w g e (us o)) (k v : Nat) (z : Int) (hz : z = (v : Int)) : Cells (w.setCell ⟨g, k, Option.none⟩ (.int .u64 z)) g e (us (o.set k v)) := by
 subst hz
 rw [← us_set]
 exact h.set k _
structure TimesIn (out : List Nat) (a k : Nat) (r : List Nat) (t cy : Nat) (o : List Nat) : Prop where
 small : cy < 1000000000
 len : o.length = out.length
 pcs : Pcs o
 val : pv o + cy * 1000000000 ^ (k + t) = pv out + a * pv (r.take t) * 1000000000 ^ k
 same : ∀ j, k + t ≤ j → o[j]?.getD 0 = out[j]?.getD 0
theorem times_in_start (out : List Nat) (a k : Nat) (r : List Nat) (h : Pcs out) : TimesIn out a k r 0 0 out :=
 ⟨by omega, rfl, h, by simp [pv], fun _ _ => rfl⟩
theorem times_in_step {out : List Nat} {a k : Nat} {r : List Nat} {t cy : Nat} {o : List Nat} (h : TimesIn out a k r t cy o) (x b : Nat) (hx : o[k + t]?.getD 0 = x) (hb : r[t]?.getD 0 = b)
  (ht : t < r.length) (hk : k + t < out.length) (ha : a < 1000000000) (hbb : b < 1000000000) :
  TimesIn out a k r (t + 1) ((cy + (x + a * b)) / 1000000000) (o.set (k + t) ((cy + (x + a * b)) % 1000000000)) := by
 have hxx : x < 1000000000 := by rw [← hx]; exact pcs_getD h.pcs _
 have hab : a * b ≤ 999999999 * 999999999 := Nat.mul_le_mul (by omega) (by omega)
 have hcy := h.small
 refine ⟨by omega, by simp [h.len], pcs_set h.pcs (by omega), ?_, ?_⟩
 ·have e0 := pv_set o (k + t) ((cy + (x + a * b)) % 1000000000) (by rw [h.len]; exact hk)
  rw [hx] at e0
  have e1 := h.val
  rw [pv_take_succ r t ht, hb]
  generalize hs : cy + (x + a * b) = s at *
  generalize hP : (1000000000 : Nat) ^ (k + t) = P at *
  have hP2 : (1000000000 : Nat) ^ (k + (t + 1)) = 1000000000 * P := by rw [← hP, ← Nat.add_assoc, Nat.pow_succ, Nat.mul_comm]
  rw [hP2]
  have e2 : (s / 1000000000) * (1000000000 * P) + (s % 1000000000) * P = s * P := by
   rw [← Nat.mul_assoc, ← Nat.add_mul, Nat.mul_comm (s / 1000000000), Nat.div_add_mod]
  have e3 : s * P = cy * P + (x * P + a * b * P) := by rw [← hs, Nat.add_mul, Nat.add_mul]
  have e4 : a * (pv (r.take t) + 1000000000 ^ t * b) * 1000000000 ^ k = a * pv (r.take t) * 1000000000 ^ k + a * b * P := by
   rw [← hP, Nat.pow_add, Nat.mul_add, Nat.add_mul]
   congr 1
   rw [Nat.mul_comm (1000000000 ^ t) b, Nat.mul_assoc, Nat.mul_assoc, Nat.mul_assoc, Nat.mul_comm (1000000000 ^ t)]
  rw [e4]
  omega
 ·intro j hj
  rw [List.getElem?_set_ne (by omega)]
  exact h.same j (by omega)
structure TimesOut (l r : List Nat) (k : Nat) (o : List Nat) : Prop where
 len : o.length = l.length + r.length
 pcs : Pcs o
 val : pv o = pv (l.take k) * pv r
 zero : ∀ j, k + r.length ≤ j → o[j]?.getD 0 = 0
theorem times_out_start (l r : List Nat) : TimesOut l r 0 (List.replicate (l.length + r.length) 0) :=
 ⟨by simp, fun x hx => by rw [List.eq_of_mem_replicate hx]; omega, by rw [pv_zeros _ (fun x hx => List.eq_of_mem_replicate hx)]; simp [pv],
  fun j _ => by rw [List.getElem?_replicate]; split <;> rfl⟩
theorem times_out_step {l r : List Nat} {k : Nat} {out o : List Nat} {cy : Nat} (h : TimesOut l r k out) (a : Nat) (ha : l[k]?.getD 0 = a) (hk : k < l.length)
  (hi : TimesIn out a k r r.length cy o) : TimesOut l r (k + 1) (o.set (k + r.length) cy) := by
 refine ⟨by simp [hi.len, h.len], pcs_set hi.pcs hi.small, ?_, ?_⟩
 ·have e0 := pv_set o (k + r.length) cy (by rw [hi.len, h.len]; omega)
  rw [hi.same _ (Nat.le_refl _), h.zero _ (Nat.le_refl _)] at e0
  have e1 := hi.val
  rw [List.take_of_length_le (Nat.le_refl _)] at e1
  rw [pv_take_succ l k hk, ha, Nat.add_mul, ← h.val]
  have e2 : a * pv r * 1000000000 ^ k = 1000000000 ^ k * a * pv r := by
   rw [Nat.mul_comm (a * pv r), Nat.mul_assoc]
  omega
 ·intro j hj
  rw [List.getElem?_set_ne (by omega), hi.same j (by omega)]
  exact h.zero j (by omega)
def OwnP (base : Nat) (x : Nat) (w' : World) (e : Ending) : Prop := ∃ v, e = .returned v ∧ w'.ownsRow base 229 1 v (pcs x).length (us (pcs x))
theorem Tryz.info_u64 : (Tryz.prog.info? 229).map (fun i => (i.zero, i.size, i.bytes)) = some (some (.int .u64 0), 1, 8) := by kernel_rfl
theorem made_us (n : Nat) : (madeCells (Value.int .u64 0).cells (n * 1)).toList = us (List.replicate n 0) := by
 unfold madeCells us Value.cells
 apply List.ext_getElem
 ·simp
 ·intro i h1 h2
  simp [Nat.mod_one]
set_option maxHeartbeats 1000000 in
theorem times_any (A1 A2 : Option Addr) (n m c1 c2 : Nat) (l r : List Nat) (w : World) (h1 : Row w w.heap.size 1 A1 n (us l)) (h2 : Row w w.heap.size 1 A2 m (us r))
  (p1 : Pcs l) (p2 : Pcs r) (hn : n ≤ 1000000) (hm : m ≤ 1000000) :
  Calls Tryz.prog 198 #[.slice A1 n c1, .slice A2 m c2] w fun e w' => OwnP w.heap.size (pv l * pv r) w' e ∧ Below w.heap.size w w' := by
 obtain ⟨i0, hi0, hz0, hz1, hz2⟩ := info_parts Tryz.info_u64
 have hll : l.length = n := by have := h1.len; rw [us_length] at this; omega
 have hrl : r.length = m := by have := h2.len; rw [us_length] at this; omega
 have HL := Lib.hid hll
 have HR := Lib.hid hrl
 clear hll hrl
 go_enter Tryz.func198, Tryz.ntmps198
 go_wp2_with (at_make; refine wpList_make_full _ rfl _ _ _ rfl w.heap.size 229 i0 (.int .u64 0) 1 Tryz.underlying260 hi0 hz0 hz1 .i64 .i64 _ _ (n + m) rfl rfl (by omega) (by omega) (by rw [hz2]; omega) (by unfold maxLen; omega) (Nat.le_refl _) ?_; intro w1 hown hg1)
 have hc1 : Cells w1 w.heap.size 229 (us (List.replicate (n + m) 0)) := Cells.of_full (by rw [← made_us]; exact hown)
 have hb1 : Below w.heap.size w w1 := (Below.refl _ _).grown hg1 (Nat.le_refl _) (by simp)
 clear hown hg1
 go_loopw [19] (fun i wr => ∃ (k : Nat) (out : List Nat), k ≤ n ∧ i = .int .i64 k ∧ TimesOut l r k out ∧ Cells wr w.heap.size 229 (us out) ∧ Below w.heap.size w wr) (fun i _ => n - (intOf i).toNat)
 case atStart => exact ⟨0, _, Nat.zero_le _, rfl, by rw [← HL.out, ← HR.out] at hc1 ⊢; exact times_out_start l r, hc1, hb1⟩
 case round =>
  clear hc1 hb1
  obtain ⟨k, out, hk, rfl, ht, hcl, hbw⟩ := hrel
  by_cases hlt : k < n
  ·obtain ⟨ad, rfl, _, hca⟩ := (h1.below hbw (Nat.le_refl _)).u_at hlt
   have hal : l[k]?.getD 0 < 1000000000 := pcs_getD p1 k
   generalize ha : l[k]?.getD 0 = a at hca hal
   have HA := Lib.hid ha
   clear ha
   go_wp2
   obtain ⟨wo, rfl⟩ : ∃ wo : World, wo = wr := ⟨_, rfl⟩
   go_loopw [8, 26] (fun cr j wr => ∃ (t cy : Nat) (o : List Nat), t ≤ m ∧ j = .int .i64 t ∧ cr = .int .u64 cy ∧ TimesIn out a k r t cy o ∧ Cells wr w.heap.size 229 (us o) ∧ Below w.heap.size w wr) (fun _ j _ => m - (intOf j).toNat)
   case atStart => exact ⟨0, 0, out, Nat.zero_le _, rfl, rfl, times_in_start _ _ _ _ ht.pcs, hcl, hbw⟩
   case round =>
    clear hcl hbw hca
    obtain ⟨t, cy, o, htm, rfl, rfl, hti, hcl, hbw⟩ := hrel
    have hcy := hti.small
    have hol : o.length = n + m := by rw [hti.len, ht.len, HL.out, HR.out]
    have HO := Lib.hid hol
    clear hol
    by_cases htl : t < m
    ·obtain ⟨ad2, rfl, _, hcb⟩ := (h2.below hbw (Nat.le_refl _)).u_at htl
     have hbl : r[t]?.getD 0 < 1000000000 := pcs_getD p2 t
     generalize hb : r[t]?.getD 0 = b at hcb hbl
     have hco := hcl.cell (k + t)
     rw [us_get o (k + t) (by rw [HO.out]; omega)] at hco
     have hxl : o[k + t]?.getD 0 < 1000000000 := pcs_getD hti.pcs _
     generalize hx : o[k + t]?.getD 0 = x at hco hxl
     have HB := Lib.hid hb
     have HX := Lib.hid hx
     clear hb hx
     have hfo := hcl.free (k + t)
     have hab : a * b ≤ 999999999 * 999999999 := Nat.mul_le_mul (by omega) (by omega)
     have hab1 : (a : Int) * (b : Int) ≤ 999999998000000001 := by have : ((a * b : Nat) : Int) ≤ 999999998000000001 := by omega
                                                                  rwa [Int.natCast_mul] at this
     have hab0 : 0 ≤ (a : Int) * (b : Int) := by rw [← Int.natCast_mul]; omega
     go_wp2
     go_roundw
     case rel =>
      have hst := times_in_step hti x b HX.out HB.out (by rw [HR.out]; exact htl) (by rw [ht.len, HL.out, HR.out]; omega) hal hbl
      refine ⟨t + 1, _, _, by omega, by go_num, ?_, hst, ?_, hbw.setCell (Nat.le_refl _) _⟩
      ·go_num
      ·exact cells_set_u hcl _ _ _ (by simp)
     case measure => simp [intOf]; omega
    ·obtain rfl : t = m := by omega
     have hco := hcl.cell (k + t)
     rw [us_get o (k + t) (by rw [HO.out]; omega)] at hco
     generalize hx : o[k + t]?.getD 0 = x at hco
     clear hx
     have hfo := hcl.free (k + t)
     go_wp2
     go_roundw
     case rel =>
      have hti' : TimesIn out a k r r.length cy o := by rw [HR.out]; exact hti
      have hst := times_out_step ht a HA.out (by rw [HL.out]; exact hlt) hti'
      rw [HR.out] at hst
      refine ⟨k + 1, _, by omega, by go_num, hst, ?_, hbw.setCell (Nat.le_refl _) _⟩
      exact cells_set_u hcl _ _ _ rfl
     case measure => simp [intOf]; omega
  ·obtain rfl : k = n := by omega
   have hrow := hcl.row (B := w.heap.size + 1) (n := k + m) (by omega) (by rw [us_length, ht.len, HL.out, HR.out])
   go_wp2_with (go_at_call 233; refine (trim_any _ _ _ _ out _ hrow (Nat.le_refl _) (by unfold maxLen; omega) ht.pcs).mono ?_; rintro e w' ⟨rfl, rfl⟩)
   go_ret
   refine ⟨⟨_, rfl, ?_⟩, hbw⟩
   have hv : pv out = pv l * pv r := by rw [ht.val, List.take_of_length_le (by rw [HL.out]; exact Nat.le_refl _)]
   obtain ⟨hle, htk⟩ := trim_take out ht.pcs
   rw [← hv]
   have ho := hcl.own (base := w.heap.size) (n := k + m) (k := (pcs (pv out)).length) (Nat.le_refl _) (by rw [us_length, ht.len, HL.out, HR.out]) (by unfold maxLen; omega) (by rw [ht.len, HL.out, HR.out] at hle; exact hle)
   rw [← us_take, htk] at ho
   exact ho
def bs (l : List UInt8) : List Value := l.map fun b => Value.int .u8 ((b.toNat : Nat) : Int)
theorem bs_length (l : List UInt8) : (bs l).length = l.length := by simp [bs]
theorem bs_append (a b : List UInt8) : bs (a ++ b) = bs a ++ bs b := by simp [bs]
theorem Row.b_at {w : World} {B n k : Nat} {A : Option Addr} {l : List UInt8} (h : Row w B 1 A n (bs l)) (hk : k < n) :
  ∃ ad, A = some ad ∧ ad.block < B ∧ w.cell? (ad.add k) = some (.int .u8 (((l[k]?.getD 0).toNat : Nat) : Int)) := by
 have hl : k < l.length := by have := h.len; rw [bs_length] at this; omega
 obtain ⟨ad, e, hb, hc⟩ := h.get k (.int .u8 ((l[k].toNat : Nat) : Int)) (by unfold bs; rw [List.getElem?_map, List.getElem?_eq_getElem hl]; rfl)
 exact ⟨ad, e, hb, by rw [hc, List.getElem?_eq_getElem hl]; rfl⟩
theorem bytes_below (w : World) (e : TypeId) (s : ByteArray) : Below w.heap.size w (Lib.bytesWorld w e s) :=
 ⟨rfl, rfl, rfl, by simp [Lib.bytesWorld, World.freeze, World.alloc, World.drew, -World.alloc_eq, -World.drew_eq], fun k hk => Lib.bytesWorld_at_old w e s k hk⟩
theorem bytes_row (w : World) (e : TypeId) (s : ByteArray) : Row (Lib.bytesWorld w e s) (w.heap.size + 1) 1 (some ⟨w.heap.size, 0, Option.none⟩) s.size (bs s.data.toList) := by
 refine ⟨by rw [bs_length]; simp, fun k u hu => ⟨_, rfl, by simp, ?_⟩⟩
 have hk : k < s.data.toList.length := by have := (List.getElem?_eq_some_iff.1 hu).1; rw [bs_length] at this; exact this
 rw [show (⟨w.heap.size, 0, Option.none⟩ : Addr).add k = ⟨w.heap.size, k, Option.none⟩ by unfold Addr.add; split <;> simp_all]
 rw [cell_of_row _ _ k _ _ _ (Lib.bytesWorld_at_new w e s), ← hu]
 unfold Lib.bytesCells bs
 rw [Array.getElem?_append_left (by simpa using hk)]
 simp
theorem wpList_bytes {P : Program} (w : World) {ops : Array Oper} {rest : List Oper} {o : Oper} {a : Act} {Q : Exit → Act → World → Prop}
  (hg : o.guard = Option.none) (x : Operand) (src dst : TypeId) (hop : o.op = Op.convert src dst x) (e : TypeId) (hs : P.underlying src = some .string) (hd : P.underlying dst = some (.slice e)) (he : P.underlying e = some (.int .u8))
  (s : ByteArray) (hx : a.eval x = .string s) (l : List UInt8) (hl : s.data.toList = l)
  (hK : ∀ cap w', Below w.heap.size w w' → Row w' (w.heap.size + 1) 1 (some ⟨w.heap.size, 0, Option.none⟩) l.length (bs l) →
    wpList P ops Q rest (a.put o.dst (.slice (some ⟨w.heap.size, 0, Option.none⟩) l.length cap)) w') : wpList P ops Q (o :: rest) a w := by
 subst hl
 have hsz : s.data.toList.length = s.size := by simp
 refine wpList_plain hg fun K hK' => ?_
 have hrun := Lib.run_convert_string_bytes (P := P) w src dst e s hs hd he
 unfold Oper.wp
 simp [execOp, hop, hx, hrun, Result.andThen]
 have hr := bytes_row w e s
 rw [hsz] at hK
 exact hK' _ _ (hK _ _ (bytes_below w e s) hr)
theorem wpList_string {P : Program} (w : World) {ops : Array Oper} {rest : List Oper} {o : Oper} {a : Act} {Q : Exit → Act → World → Prop}
  (hg : o.guard = Option.none) (x : Operand) (src dst : TypeId) (hop : o.op = Op.convert src dst x) (e : TypeId) (hs : P.underlying src = some (.slice e)) (he : P.underlying e = some (.int .u8)) (hd : P.underlying dst = some .string)
  (B : Nat) (A : Option Addr) (n c : Nat) (l : List UInt8) (hx : a.eval x = .slice A n c) (hr : Row w B 1 A n (bs l)) (h0 : 0 < n)
  (hK : wpList P ops Q rest (a.put o.dst (.string ⟨l.toArray⟩)) w) : wpList P ops Q (o :: rest) a w := by
 refine wpList_plain hg fun K hK' => ?_
 have hl : l.length = n := by have := hr.len; rw [bs_length] at this; omega
 obtain ⟨ad, rfl, _, _⟩ := hr.b_at h0
 subst hl
 have hrun := run_convert_bytes_back (P := P) w src dst e ad c l hs he hd (fun j hj => by
  obtain ⟨ad', e1, _, hc⟩ := hr.b_at (k := j) hj
  injection e1 with e1
  subst e1
  rw [hc, List.getElem?_eq_getElem hj]; rfl)
 unfold Oper.wp
 simp [execOp, hop, hx, hrun, Result.andThen]
 exact hK' _ _ hK
structure CutAt (x : List UInt8) (z : Int) (l : List Nat) : Prop where
 pos : z = (x.length : Int) - 9 * l.length
 pcs : Pcs l
 val : pv l + 1000000000 ^ l.length * dval 0 (x.take z.toNat) = dval 0 x
theorem cut_at_start (x : List UInt8) : CutAt x (x.length : Int) [] :=
 ⟨by simp, fun y hy => by simp at hy, by simp [pv]⟩
theorem cut_at_step {x : List UInt8} {z : Int} {l : List Nat} (h : CutAt x z l) (hd : ∀ c ∈ x, isDig c) (hz : 0 < z) (v : Nat) (hv : v = dval 0 ((x.take z.toNat).drop (z.toNat - 9))) : CutAt x (z - 9) (l ++ [v]) := by
 subst hv
 have hp := h.pos
 refine ⟨by simp; omega, ?_, ?_⟩
 ·intro y hy
  rcases List.mem_append.1 hy with hy | hy
  ·exact h.pcs y hy
  ·rw [List.mem_singleton] at hy
   subst hy
   have h1 := dval_lt0 ((x.take z.toNat).drop (z.toNat - 9)) (fun c hc => hd c (List.mem_of_mem_take (List.mem_of_mem_drop hc)))
   have h2 : ((x.take z.toNat).drop (z.toNat - 9)).length ≤ 9 := by simp only [List.length_drop, List.length_take]; omega
   have h3 := Nat.pow_le_pow_right (show 0 < 10 by omega) h2
   omega
 ·have := cut_round x (dval 0 x) z.toNat l (by omega) (by omega) h.val
  rw [show (z - 9).toNat = z.toNat - 9 by omega, List.length_append]
  exact this
theorem cut_at_end {x : List UInt8} {z : Int} {l : List Nat} (h : CutAt x z l) (hz : z ≤ 0) : pv l = dval 0 x := by
 have := h.val
 rw [show z.toNat = 0 by omega] at this
 simpa [dval_nil] using this
theorem dig_get {l : List UInt8} (hd : ∀ c ∈ l, isDig c) {k : Nat} (hk : k < l.length) : 48 ≤ (l[k]?.getD 0).toNat ∧ (l[k]?.getD 0).toNat ≤ 57 := by
 have := hd (l[k]?.getD 0) (by rw [List.getElem?_eq_getElem hk]; exact List.getElem_mem hk)
 exact this
theorem dval_take_succ (l : List UInt8) (k : Nat) (hk : k < l.length) : dval 0 (l.take (k + 1)) = 10 * dval 0 (l.take k) + dgv (l[k]?.getD 0) := by
 rw [List.take_succ_eq_append_getElem hk, dval_snoc, List.getElem?_eq_getElem hk]; rfl
theorem dval_take_lt {l : List UInt8} (hd : ∀ c ∈ l, isDig c) (k m : Nat) (hk : k ≤ m) : dval 0 (l.take k) < 10 ^ m := by
 have h1 := dval_lt0 (l.take k) (fun c hc => hd c (List.mem_of_mem_take hc))
 have h2 : (l.take k).length ≤ m := by rw [List.length_take]; omega
 exact Nat.lt_of_lt_of_le h1 (Nat.pow_le_pow_right (by omega) h2)
theorem ext_eq (s : ByteArray) (a b : Nat) : (s.extract a b).data.toList = (s.data.toList.take b).drop a := by rw [Lib.extract_data, List.drop_take]
theorem addr0 (g k : Nat) : (⟨g, 0, Option.none⟩ : Addr).add k = ⟨g, k, Option.none⟩ := by unfold Addr.add; split <;> simp_all
set_option maxRecDepth 100000 in
set_option maxHeartbeats 1000000 in
theorem cut_any (x : ByteArray) (w : World) (hd : ∀ c ∈ x.data.toList, isDig c) (hs : x.size ≤ 1000000) :
  Calls Tryz.prog 197 #[.string x] w fun e w' => OwnP w.heap.size (dval 0 x.data.toList) w' e ∧ Below w.heap.size w w' := by
 obtain ⟨i0, hi0, hz0, hz1, hz2⟩ := info_parts Tryz.info_u64
 have HD := Lib.hid hd
 clear hd
 go_enter Tryz.func197, Tryz.ntmps197
 go_wp2_with (at_make; refine wpList_make_own _ rfl _ _ _ rfl w.heap.size 229 i0 (.int .u64 0) 1 Tryz.underlying260 hi0 hz0 hz1 .i64 .i64 _ (x.size / 9 + 1) rfl rfl (by omega) (by rw [hz2]; omega) (by unfold maxLen; omega) (Nat.le_refl _) ?_; intro w1 hown hg1)
 have hb1 : Below w.heap.size w w1 := (Below.refl _ _).grown hg1 (Nat.le_refl _) (by simp)
 clear hg1
 have hxl : x.data.toList.length = x.size := by simp
 have HXL := Lib.hid hxl
 clear hxl
 go_loopw [3, 4] (fun v i wr => ∃ (z : Int) (l : List Nat), i = .int .i64 z ∧ CutAt x.data.toList z l ∧ wr.ownsRow w.heap.size 229 1 v l.length (us l) ∧ Below w.heap.size w wr) (fun _ i _ => (intOf i).toNat)
 case atStart => exact ⟨_, [], rfl, by rw [← HXL.out]; exact cut_at_start _, hown, hb1⟩
 case round =>
  clear hown hb1
  obtain ⟨z, l, rfl, hcut, hown, hbw⟩ := hrel
  have hzx : z ≤ x.size := by have := hcut.pos; have := HXL.out; omega
  by_cases hz : 0 < z
  ·obtain ⟨en, rfl⟩ : ∃ en : Nat, z = (en : Int) := ⟨z.toNat, by omega⟩
   obtain ⟨ch, hch⟩ : ∃ ch, ch = (x.data.toList.take en).drop (en - 9) := ⟨_, rfl⟩
   have hchl : ch.length ≤ 9 := by rw [hch]; simp only [List.length_drop, List.length_take]; omega
   have HC := Lib.hid hch
   clear hch
   have HCD : Hid (∀ c ∈ ch, isDig c) := by rw [HC.out]; exact fun c hc => HD.out c (List.mem_of_mem_take (List.mem_of_mem_drop hc))
   have HN := Lib.hid hown
   clear hown
   by_cases h9 : 9 < en
   ·go_wp2_with (refine wpList_bytes _ rfl _ _ _ rfl 5 Tryz.underlying49 Tryz.underlying22 Tryz.underlying5 _ rfl ch (by rw [ext_eq]; exact HC.out.symm) ?_; intro cap w2 hb2 hr2)
    go_loop [5, 27] (fun v i => ∃ t : Nat, t ≤ ch.length ∧ i = .int .i64 t ∧ v = .int .u64 ((dval 0 (ch.take t) : Nat) : Int)) (fun _ i => ch.length - (intOf i).toNat)
    case atStart => exact ⟨0, Nat.zero_le _, rfl, rfl⟩
    case round =>
     obtain ⟨t, ht, rfl, rfl⟩ := hrel
     have hdv : dval 0 (ch.take t) < 10 ^ 9 := dval_take_lt HCD.out t 9 (by omega)
     by_cases htl : t < ch.length
     ·have hv9 : dval 0 (ch.take t) < 10 ^ 8 := dval_take_lt HCD.out t 8 (by omega)
      have HV := Lib.hid (dval_take_succ ch t htl)
      have hdg := dig_get HCD.out htl
      have hg := dgv_eq (ch[t]?.getD 0)
      obtain ⟨ad, e, _, hcell⟩ := hr2.b_at htl
      injection e with e
      subst e
      rw [addr0] at hcell
      generalize hcc : (ch[t]?.getD 0).toNat = cc at hcell hdg hg
      generalize hvv : dval 0 (ch.take t) = dv at hdv hv9 HV
      have HG := Lib.hid hg
      have HCC := Lib.hid hcc
      clear hg hcc
      go_wp2
      go_round
      case rel => exact ⟨t + 1, by omega, by go_num, by rw [HV.out, HG.out]; go_num⟩
      case measure => simp [intOf]; omega
     ·obtain rfl : t = ch.length := by omega
      have hown2 := own_below HN.out hb2
      have hll : l.length ≤ 1000000 := by have := hcut.pos; have := HXL.out; omega
      have hvch : dval 0 (ch.take ch.length) = dval 0 ch := by rw [List.take_of_length_le (Nat.le_refl _)]
      generalize hvv : dval 0 (ch.take ch.length) = dv at hdv hvch
      have HVC := Lib.hid hvch
      clear hvch hvv
      go_wp2_with (at_builtin; refine wpList_append_own _ rfl _ _ _ rfl w.heap.size 229 i0 (.int .u64 0) 1 8 Tryz.underlying260 hi0 hz0 hz1 hz2 rfl (by decide) _ _ _ rfl (hown2.alloc _) ⟨w2.heap.size, 0, Option.none⟩ 1 1 [.int .u64 (dv : Int)] rfl rfl (cell_one_new _ _ _) (by intro u hu; simp at hu; subst hu; rfl) (by unfold maxLen; omega) (by omega) (by have := hbw.size; have := hb2.size; simp; omega) ?_; intro v3 w3 hown3 hg3 _)
      go_wp2
      go_roundw
      case rel =>
       refine ⟨_, l ++ [dv], rfl, cut_at_step hcut HD.out hz dv (by rw [HVC.out, HC.out]; rfl), ?_, ?_⟩
       ·rw [List.length_append, us_append]; exact hown3
       ·exact ((hbw.trans (hb2.mono hbw.size)).alloc (by have := hbw.size; have := hb2.size; omega) _).grown hg3 (by have := hbw.size; have := hb2.size; simp; omega) (fun k hk => (HN.out.lt k hk).1)
      case measure => simp [intOf]; omega
   ·go_wp2_with (refine wpList_bytes _ rfl _ _ _ rfl 5 Tryz.underlying49 Tryz.underlying22 Tryz.underlying5 _ rfl ch (by rw [ext_eq, HC.out, show en - 9 = 0 by omega]) ?_; intro cap w2 hb2 hr2)
    go_loop [5, 27] (fun v i => ∃ t : Nat, t ≤ ch.length ∧ i = .int .i64 t ∧ v = .int .u64 ((dval 0 (ch.take t) : Nat) : Int)) (fun _ i => ch.length - (intOf i).toNat)
    case atStart => exact ⟨0, Nat.zero_le _, rfl, rfl⟩
    case round =>
     obtain ⟨t, ht, rfl, rfl⟩ := hrel
     have hdv : dval 0 (ch.take t) < 10 ^ 9 := dval_take_lt HCD.out t 9 (by omega)
     by_cases htl : t < ch.length
     ·have hv9 : dval 0 (ch.take t) < 10 ^ 8 := dval_take_lt HCD.out t 8 (by omega)
      have HV := Lib.hid (dval_take_succ ch t htl)
      have hdg := dig_get HCD.out htl
      have hg := dgv_eq (ch[t]?.getD 0)
      obtain ⟨ad, e, _, hcell⟩ := hr2.b_at htl
      injection e with e
      subst e
      rw [addr0] at hcell
      generalize hcc : (ch[t]?.getD 0).toNat = cc at hcell hdg hg
      generalize hvv : dval 0 (ch.take t) = dv at hdv hv9 HV
      have HG := Lib.hid hg
      have HCC := Lib.hid hcc
      clear hg hcc
      go_wp2
      go_round
      case rel => exact ⟨t + 1, by omega, by go_num, by rw [HV.out, HG.out]; go_num⟩
      case measure => simp [intOf]; omega
     ·obtain rfl : t = ch.length := by omega
      have hown2 := own_below HN.out hb2
      have hll : l.length ≤ 1000000 := by have := hcut.pos; have := HXL.out; omega
      have hvch : dval 0 (ch.take ch.length) = dval 0 ch := by rw [List.take_of_length_le (Nat.le_refl _)]
      generalize hvv : dval 0 (ch.take ch.length) = dv at hdv hvch
      have HVC := Lib.hid hvch
      clear hvch hvv
      go_wp2_with (at_builtin; refine wpList_append_own _ rfl _ _ _ rfl w.heap.size 229 i0 (.int .u64 0) 1 8 Tryz.underlying260 hi0 hz0 hz1 hz2 rfl (by decide) _ _ _ rfl (hown2.alloc _) ⟨w2.heap.size, 0, Option.none⟩ 1 1 [.int .u64 (dv : Int)] rfl rfl (cell_one_new _ _ _) (by intro u hu; simp at hu; subst hu; rfl) (by unfold maxLen; omega) (by omega) (by have := hbw.size; have := hb2.size; simp; omega) ?_; intro v3 w3 hown3 hg3 _)
      go_wp2
      go_roundw
      case rel =>
       refine ⟨_, l ++ [dv], rfl, cut_at_step hcut HD.out hz dv (by rw [HVC.out, HC.out]; rfl), ?_, ?_⟩
       ·rw [List.length_append, us_append]; exact hown3
       ·exact ((hbw.trans (hb2.mono hbw.size)).alloc (by have := hbw.size; have := hb2.size; omega) _).grown hg3 (by have := hbw.size; have := hb2.size; simp; omega) (fun k hk => (HN.out.lt k hk).1)
      case measure => simp [intOf]; omega
  ·obtain ⟨A, c, rfl, hlc, hcm, hrow⟩ := Row.of_own hown
   go_wp2_with (go_at_call 233; refine (trim_any _ _ _ _ l _ hrow hlc hcm hcut.pcs).mono ?_; rintro e w' ⟨rfl, rfl⟩)
   go_ret
   have hv := cut_at_end hcut (by omega)
   rw [← hv]
   obtain ⟨hle, htk⟩ := trim_take l hcut.pcs
   refine ⟨⟨_, rfl, ?_⟩, hbw⟩
   have ho := own_take hown hle
   rw [← us_take, htk] at ho
   exact ho
end Go.Proofs.YtaaeekahhhookaaGreatDoor
namespace Go.Proofs.YtaaeekahhhookaaGreatDoor
open Go.RowKit Go.Lib
def OwnPN (base x r : Nat) (w' : World) (e : Ending) : Prop := ∃ v, e = .returned (.tuple #[v, .int .u64 r]) ∧ w'.ownsRow base 229 1 v (pcs x).length (us (pcs x))
theorem mul_lt18 {a b : Nat} (ha : a < 1000000000) (hb : b < 1000000000) : (a : Int) * (b : Int) ≤ 999999998000000001 ∧ 0 ≤ (a : Int) * (b : Int) := by
 have h : a * b ≤ 999999999 * 999999999 := Nat.mul_le_mul (by omega) (by omega)
 have e : (a : Int) * (b : Int) = ((a * b : Nat) : Int) := by simp
 omega
set_option maxRecDepth 100000 in
set_option maxHeartbeats 1000000 in
theorem small_any (A : Option Addr) (m c n : Nat) (l : List Nat) (w : World) (h1 : Row w w.heap.size 1 A m (us l)) (p1 : Pcs l) (hm : m ≤ 1000000) (hn0 : 0 < n) (hn : n < 1000000000) :
  Calls Tryz.prog 226 #[.slice A m c, .int .u64 n] w fun e w' => OwnPN w.heap.size (pv l / n) (pv l % n) w' e ∧ Below w.heap.size w w' := by
 obtain ⟨i0, hi0, hz0, hz1, hz2⟩ := info_parts Tryz.info_u64
 have hll : l.length = m := by have := h1.len; rw [us_length] at this; omega
 have HL := Lib.hid hll
 clear hll
 go_enter Tryz.func226, Tryz.ntmps226
 go_wp2_with (at_make; refine wpList_make_full _ rfl _ _ _ rfl w.heap.size 229 i0 (.int .u64 0) 1 Tryz.underlying260 hi0 hz0 hz1 .i64 .i64 _ _ m rfl rfl (by omega) (by omega) (by rw [hz2]; omega) (by unfold maxLen; omega) (Nat.le_refl _) ?_; intro w1 hown hg1)
 have hc1 : Cells w1 w.heap.size 229 (us (List.replicate m 0)) := Cells.of_full (by rw [← made_us]; exact hown)
 have hb1 : Below w.heap.size w w1 := (Below.refl _ _).grown hg1 (Nat.le_refl _) (by simp)
 clear hown hg1
 go_loopw [7, 8] (fun r i wr => ∃ (k rest : Nat) (o : List Nat), k ≤ m ∧ i = .int .i64 ((k : Int) - 1) ∧ r = .int .u64 rest ∧ SmallAt l n k rest o ∧ Cells wr w.heap.size 229 (us o) ∧ Below w.heap.size w wr) (fun _ i _ => (intOf i + 1).toNat)
 case atStart => exact ⟨m, 0, _, Nat.le_refl _, rfl, rfl, by rw [← HL.out] at hc1 ⊢; exact small_at_start l n hn0, hc1, hb1⟩
 case round =>
  clear hc1 hb1
  obtain ⟨k, rest, o, hk, rfl, rfl, hs, hcl, hbw⟩ := hrel
  have hlt := hs.lt
  have hol : o.length = m := by rw [hs.len, HL.out]
  by_cases hk0 : 0 < k
  ·obtain ⟨j, rfl⟩ : ∃ j, k = j + 1 := ⟨k - 1, by omega⟩
   obtain ⟨ad, rfl, _, hca⟩ := (h1.below hbw (Nat.le_refl _)).u_at (k := j) (by omega)
   have hal : l[j]?.getD 0 < 1000000000 := pcs_getD p1 j
   generalize ha : l[j]?.getD 0 = a at hca hal
   have HA := Lib.hid ha
   clear ha
   have hco := hcl.cell j
   rw [us_get o j (by omega)] at hco
   generalize o[j]?.getD 0 = x at hco
   have HO := Lib.hid hol
   have hfo := hcl.free j
   clear hol
   have hrest : (rest : Int) * 1000000000 ≤ 999999999000000000 := by omega
   have hj0 : (0 : Int) ≤ ((j + 1 : Nat) : Int) - 1 := by omega
   have hj1 : (((j + 1 : Nat) : Int) - 1) = (j : Int) := by omega
   rw [hj1]
   clear hj0 hj1
   go_wp2
   go_roundw
   case rel =>
    have hst := small_at_step hs (by rw [HL.out]; omega) a HA.out hal
    refine ⟨j, _, _, by omega, by go_num, ?_, hst, ?_, hbw.setCell (Nat.le_refl _) _⟩
    ·simp
    ·exact cells_set_u hcl _ _ _ (by simp)
   case measure => (simp [intOf]; try omega)
  ·obtain rfl : k = 0 := by omega
   have hrow := hcl.row (B := w.heap.size + 1) (n := m) (by omega) (by rw [us_length, hol])
   have HO := Lib.hid hol
   clear hol
   go_wp2_with (go_at_call 233; refine (trim_any _ _ _ _ o _ hrow (Nat.le_refl _) (by unfold maxLen; omega) hs.pcs).mono ?_; rintro e w' ⟨rfl, rfl⟩)
   go_ret2
   obtain ⟨e1, e2⟩ := small_at_end hs
   obtain ⟨hle, htk⟩ := trim_take o hs.pcs
   rw [← e1, ← e2]
   refine ⟨⟨_, rfl, ?_⟩, hbw⟩
   have ho := hcl.own (base := w.heap.size) (n := m) (k := (pcs (pv o)).length) (Nat.le_refl _) (by rw [us_length, HO.out]) (by unfold maxLen; omega) (by rw [HO.out] at hle; exact hle)
   rw [← us_take, htk] at ho
   exact ho
theorem ret1' {a b : Bool} (h : a = b) : Ending.returned (.bool a) = .returned (.bool b) := by rw [h]
def TakePost (w : World) (base g m cap : Nat) (a q : List Nat) (n at' : Nat) (e : Ending) (w' : World) : Prop :=
 ∃ o bo, TakeAt a q n at' (q.length + 1) 0 bo o ∧ e = .returned (.bool (decide (0 < bo))) ∧ w'.ownsRow base 229 1 (.slice (some ⟨g, 0, Option.none⟩) m cap) m (us o) ∧ w.grownBy w' (some g)
theorem own_u {w : World} {base g m cap : Nat} {o : List Nat} (h : w.ownsRow base 229 1 (.slice (some ⟨g, 0, Option.none⟩) m cap) m (us o)) (k : Nat) (hk : k < m) : w.cell? ⟨g, k, Option.none⟩ = some (.int .u64 ((o[k]?.getD 0 : Nat) : Int)) := by
 rw [h.cellAt k (by omega)]
 exact us_get o k (by have := h.1; rw [us_length] at this; omega)
theorem own_set_u {w : World} {base g m cap : Nat} {o : List Nat} (h : w.ownsRow base 229 1 (.slice (some ⟨g, 0, Option.none⟩) m cap) m (us o)) (k v : Nat) (z : Int) (hz : z = (v : Int)) :
  (w.setCell ⟨g, k, Option.none⟩ (.int .u64 z)).ownsRow base 229 1 (.slice (some ⟨g, 0, Option.none⟩) m cap) m (us (o.set k v)) := by
 subst hz
 rw [← us_set]
 exact (h.stored k _).1
theorem grown_set {w wr : World} {g : Nat} (h : w.grownBy wr (some g)) (k : Nat) (u : Value) : w.grownBy (wr.setCell ⟨g, k, Option.none⟩ u) (some g) :=
 ⟨h.os, h.tape, h.output, by simpa [World.setCell] using h.size, fun i hi hne => (Below.heap_setCell wr _ u i (by rintro rfl; exact hne rfl)).trans (h.block i hi hne)⟩
set_option maxRecDepth 100000 in
set_option maxHeartbeats 1000000 in
theorem take_any (base g m cap base2 g2 kq cap2 : Nat) (a q : List Nat) (n at' : Nat) (w : World)
  (ha : w.ownsRow base 229 1 (.slice (some ⟨g, 0, Option.none⟩) m cap) m (us a)) (hq : w.ownsRow base2 229 1 (.slice (some ⟨g2, 0, Option.none⟩) kq cap2) kq (us q)) (hne : g2 ≠ g)
  (pa : Pcs a) (pq : Pcs q) (hn : n < 1000000000) (hat : at' + kq < m) (hm : m ≤ 1000000) :
  Calls Tryz.prog 234 #[.slice (some ⟨g, 0, Option.none⟩) m cap, .slice (some ⟨g2, 0, Option.none⟩) kq cap2, .int .u64 n, .int .i64 at'] w fun e w' => TakePost w base g m cap a q n at' e w' := by
 have hal : a.length = m := by have := ha.1; rw [us_length] at this; omega
 have hql : q.length = kq := by have := hq.1; rw [us_length] at this; omega
 have HA := Lib.hid hal
 have HQ := Lib.hid hql
 have HNE := Lib.hid hne
 clear hal hql hne
 go_enter Tryz.func234, Tryz.ntmps234
 go_wp2
 go_loopw [9, 10, 11] (fun b c i wr => ∃ (j bo cy : Nat) (o : List Nat), j ≤ kq + 1 ∧ i = .int .i64 j ∧ b = .int .i64 bo ∧ c = .int .u64 cy ∧ TakeAt a q n at' j cy bo o ∧ Box (j = kq + 1 → cy = 0) ∧ wr.ownsRow base 229 1 (.slice (some ⟨g, 0, Option.none⟩) m cap) m (us o) ∧ w.grownBy wr (some g)) (fun _ _ i _ => kq + 1 - (intOf i).toNat)
 case atStart => exact ⟨0, 0, 0, a, by omega, rfl, rfl, rfl, take_at_start a q n at' pa, ⟨fun _ => rfl⟩, ha, World.grownBy.refl w _⟩
 case round =>
  obtain ⟨j, bo, cy, o, hj, rfl, rfl, rfl, ht, HC0, hown, hgr⟩ := hrel
  have hcy := ht.cyl
  have hbo := ht.bol
  by_cases hjk : j ≤ kq
  ·have hxl : o[at' + j]?.getD 0 < 1000000000 := pcs_getD ht.pcs _
   have hx0 : a[at' + j]?.getD 0 = o[at' + j]?.getD 0 := (ht.high _ (Nat.le_refl _)).symm
   have hco := own_u hown (at' + j) (by omega)
   have hfo := hown.frozenAt (at' + j)
   generalize o[at' + j]?.getD 0 = x at *
   have HX := Lib.hid hx0
   clear hx0
   by_cases hlt : j < kq
   ·have hyl : q[j]?.getD 0 < 1000000000 := pcs_getD pq _
    have hcq := own_u (hq.kept hgr (.inr (by simp [Value.ownBlock]; exact HNE.out))) j hlt
    generalize hy : q[j]?.getD 0 = y at *
    have HY := Lib.hid hy
    clear hy
    have hny := mul_lt18 hn hyl
    have HNY : Box ((cy : Int) + n * y = ((cy + n * y : Nat) : Int)) := ⟨by simp⟩
    go_wp2
    ·go_roundw
     case rel =>
      have hneg : (x : Int) - (cy + n * y) % 1000000000 - bo < 0 := by assumption
      rw [HNY.out] at hneg ⊢
      generalize hcc : cy + n * y = c at *
      refine ⟨j + 1, 1, c / 1000000000, o.set (at' + j) (x + 1000000000 - c % 1000000000 - bo), by omega, by go_num, rfl, rfl, take_at_step ht x y c _ 1 HX.out (by rw [HA.out]; omega) hn pq HY.out hcc.symm (by omega) (by omega) (by omega), ⟨fun h => by omega⟩, own_set_u hown _ _ _ (by omega), grown_set hgr _ _⟩
     case measure => (simp [intOf]; try omega)
    ·go_roundw
     case rel =>
      have hpos : 0 ≤ (x : Int) - (cy + n * y) % 1000000000 - bo := by assumption
      rw [HNY.out] at hpos ⊢
      generalize hcc : cy + n * y = c at *
      refine ⟨j + 1, 0, c / 1000000000, o.set (at' + j) (x - c % 1000000000 - bo), by omega, by go_num, rfl, rfl, take_at_step ht x y c _ 0 HX.out (by rw [HA.out]; omega) hn pq HY.out hcc.symm (by omega) (by omega) (by omega), ⟨fun h => by omega⟩, own_set_u hown _ _ _ (by omega), grown_set hgr _ _⟩
     case measure => (simp [intOf]; try omega)
   ·obtain rfl : j = kq := by omega
    have hy : q[j]?.getD 0 = 0 := by rw [List.getElem?_eq_none (by rw [HQ.out]; exact Nat.le_refl _)]; rfl
    have HY := Lib.hid hy
    clear hy
    go_wp2
    ·go_roundw
     case rel =>
      have hneg : (x : Int) - cy % 1000000000 - bo < 0 := by assumption
      refine ⟨j + 1, 1, cy / 1000000000, o.set (at' + j) (x + 1000000000 - cy % 1000000000 - bo), by omega, by go_num, rfl, rfl, take_at_step ht x 0 cy _ 1 HX.out (by rw [HA.out]; omega) hn pq HY.out (by simp) (by omega) (by omega) (by omega), ⟨fun h => by omega⟩, own_set_u hown _ _ _ (by omega), grown_set hgr _ _⟩
     case measure => (simp [intOf]; try omega)
    ·go_roundw
     case rel =>
      have hpos : 0 ≤ (x : Int) - cy % 1000000000 - bo := by assumption
      refine ⟨j + 1, 0, cy / 1000000000, o.set (at' + j) (x - cy % 1000000000 - bo), by omega, by go_num, rfl, rfl, take_at_step ht x 0 cy _ 0 HX.out (by rw [HA.out]; omega) hn pq HY.out (by simp) (by omega) (by omega) (by omega), ⟨fun h => by omega⟩, own_set_u hown _ _ _ (by omega), grown_set hgr _ _⟩
     case measure => (simp [intOf]; try omega)
  ·obtain rfl : j = kq + 1 := by omega
   have h0 := HC0.out rfl
   subst h0
   go_wp2
   go_ret
   exact ⟨o, bo, by rw [HQ.out]; exact ht, ret1' (by simp), hown, hgr⟩
def BackPost (w : World) (base g m cap : Nat) (a q : List Nat) (at' : Nat) (e : Ending) (w' : World) : Prop :=
 ∃ o cy, BackAt a q at' (q.length + 1) cy o ∧ e = .returned (.tuple #[]) ∧ w'.ownsRow base 229 1 (.slice (some ⟨g, 0, Option.none⟩) m cap) m (us o) ∧ w.grownBy w' (some g)
set_option maxRecDepth 100000 in
set_option maxHeartbeats 1000000 in
theorem back_any (base g m cap base2 g2 kq cap2 : Nat) (a q : List Nat) (at' : Nat) (w : World)
  (ha : w.ownsRow base 229 1 (.slice (some ⟨g, 0, Option.none⟩) m cap) m (us a)) (hq : w.ownsRow base2 229 1 (.slice (some ⟨g2, 0, Option.none⟩) kq cap2) kq (us q)) (hne : g2 ≠ g)
  (pa : Pcs a) (pq : Pcs q) (hat : at' + kq < m) (hm : m ≤ 1000000) :
  Calls Tryz.prog 232 #[.slice (some ⟨g, 0, Option.none⟩) m cap, .slice (some ⟨g2, 0, Option.none⟩) kq cap2, .int .i64 at'] w fun e w' => BackPost w base g m cap a q at' e w' := by
 have hal : a.length = m := by have := ha.1; rw [us_length] at this; omega
 have hql : q.length = kq := by have := hq.1; rw [us_length] at this; omega
 have HA := Lib.hid hal
 have HQ := Lib.hid hql
 have HNE := Lib.hid hne
 clear hal hql hne
 go_enter Tryz.func232, Tryz.ntmps232
 go_wp2
 go_loopw [6, 7] (fun c i wr => ∃ (j cy : Nat) (o : List Nat), j ≤ kq + 1 ∧ i = .int .i64 j ∧ c = .int .u64 cy ∧ BackAt a q at' j cy o ∧ wr.ownsRow base 229 1 (.slice (some ⟨g, 0, Option.none⟩) m cap) m (us o) ∧ w.grownBy wr (some g)) (fun _ i _ => kq + 1 - (intOf i).toNat)
 case atStart => exact ⟨0, 0, a, by omega, rfl, rfl, back_at_start a q at' pa, ha, World.grownBy.refl w _⟩
 case round =>
  obtain ⟨j, cy, o, hj, rfl, rfl, ht, hown, hgr⟩ := hrel
  have hcy := ht.cyl
  by_cases hjk : j ≤ kq
  ·have hxl : o[at' + j]?.getD 0 < 1000000000 := pcs_getD ht.pcs _
   have hx0 : a[at' + j]?.getD 0 = o[at' + j]?.getD 0 := (ht.high _ (Nat.le_refl _)).symm
   have hco := own_u hown (at' + j) (by omega)
   have hfo := hown.frozenAt (at' + j)
   generalize o[at' + j]?.getD 0 = x at *
   have HX := Lib.hid hx0
   clear hx0
   by_cases hlt : j < kq
   ·have hyl : q[j]?.getD 0 < 1000000000 := pcs_getD pq _
    have hcq := own_u (hq.kept hgr (.inr (by simp [Value.ownBlock]; exact HNE.out))) j hlt
    generalize hy : q[j]?.getD 0 = y at *
    have HY := Lib.hid hy
    clear hy
    go_wp2
    go_roundw
    case rel => exact ⟨j + 1, (cy + x + y) / 1000000000, o.set (at' + j) ((cy + x + y) % 1000000000), by omega, by go_num, by go_num, back_at_step ht pa x y _ HX.out (by rw [HA.out]; omega) pq HY.out rfl, own_set_u hown _ _ _ (by simp), grown_set hgr _ _⟩
    case measure => (simp [intOf]; try omega)
   ·obtain rfl : j = kq := by omega
    have hy : q[j]?.getD 0 = 0 := by rw [List.getElem?_eq_none (by rw [HQ.out]; exact Nat.le_refl _)]; rfl
    have HY := Lib.hid hy
    clear hy
    go_wp2
    go_roundw
    case rel => exact ⟨j + 1, (cy + x + 0) / 1000000000, o.set (at' + j) ((cy + x + 0) % 1000000000), by omega, by go_num, by go_num, back_at_step ht pa x 0 _ HX.out (by rw [HA.out]; omega) pq HY.out rfl, own_set_u hown _ _ _ (by simp), grown_set hgr _ _⟩
    case measure => (simp [intOf]; try omega)
  ·obtain rfl : j = kq + 1 := by omega
   go_wp2
   go_end0
   exact ⟨o, cy, by rw [HQ.out]; exact ht, rfl, hown, hgr⟩
end Go.Proofs.YtaaeekahhhookaaGreatDoor
namespace Go.Proofs.YtaaeekahhhookaaGreatDoor
open Go.RowKit
theorem zeroCells_one (z : Value) (n : Nat) : (Builtin.zeroCells #[z] n).toList = List.replicate n z := by
 apply List.ext_getElem?
 intro j
 by_cases hj : j < n
 ·simp [Builtin.zeroCells, hj, Nat.mod_one]
 ·simp [Builtin.zeroCells, hj]
section
variable {P : Program} (w : World)
theorem run_zeros_own (base : Nat) (t ti ty e : TypeId) (i : TypeInfo) (z : Value) (bytes : Nat) (ht : P.underlying t = some (.slice e)) (hti : P.underlying ti = some (.int .i64)) (hi : P.info? e = some i) (hz : i.zero = some z)
  (hsize : i.size = 1) (hby : i.bytes = bytes) (hzc : z.cells = #[z]) (hz1 : z.oneCell' = true)
  (v : Value) (n : Nat) (xs : List Value) (hown : w.ownsRow base e 1 v n xs) (m : Nat)
  (h63 : n + m ≤ maxLen) (hbytes : (n + m) * bytes ≤ 140737488355328) (hbase : base ≤ w.heap.size) :
  ∃ v' w', (Builtin.append_ #[t, ti] ty #[v, .int .i64 (m : Int)]).run P w = .ok v' w' ∧ w'.ownsRow base e 1 v' (n + m) (xs ++ List.replicate m z) ∧ w.grownBy w' v.ownBlock ∧ (v'.ownBlock = v.ownBlock ∨ v'.ownBlock = some w.heap.size) := by
 subst hby
 have hsmall : n + m ≤ 9223372036854775807 := by simp only [maxLen] at h63; omega
 have hw : IntKind.i64.wrap (m : Int) = (m : Int) := IntWalk.i64_in _ (by omega)
 have hneg : ¬ ((m : Int) < 0) := by omega
 have hmb : m * i.bytes ≤ (n + m) * i.bytes := Nat.mul_le_mul_right _ (by omega)
 have hbig : ¬ (281474976710656 < (m : Int) * (i.bytes : Int)) := by rw [← Int.natCast_mul]; omega
 have hlen : (xs ++ List.replicate m z).length = (n + m) * 1 := by rw [List.length_append, hown.1, List.length_replicate]; omega
 rcases hown.2 with ⟨rfl, rfl⟩ | ⟨g, cap, cur, rfl, hbg, hg, hnc, hcm, hcs, htake⟩
 ·have hx : xs = [] := List.eq_nil_of_length_eq_zero (by simpa using hown.1)
  subst hx
  by_cases hm : m = 0
  ·subst hm
   have hw0 : IntKind.i64.wrap 0 = 0 := IntWalk.i64_in _ (by omega)
   refine ⟨.slice Option.none 0 0, w, ?_, by simpa using hown, World.grownBy.refl w _, .inl rfl⟩
   simp [Builtin.append_, run_underlying ht, run_underlying hti, sizeOf, typeInfo, hi, asInt, asIntOf, hw0]
  ·have h63' : ¬ (9223372036854775807 < (m : Int)) := by omega
   have h48' : ¬ (281474976710656 < Builtin.nextslicecap m 0 * i.bytes) := by rw [nextslicecap_zero (by omega)]; simp only [Nat.zero_add] at hbytes; omega
   refine ⟨.slice (some ⟨w.heap.size, 0, Option.none⟩) (0 + m) (grownCap w m 0 e), w.drew.alloc (.cells ((List.replicate m z).toArray ++ Builtin.zeroCells #[z] (grownCap w m 0 e - m)) e), ?_, ⟨hlen, .inr ⟨w.heap.size, _, _, rfl, hbase, heap_alloc_new w.drew _, by rw [Nat.zero_add]; exact grownCap_ge _ _ _ _, grownCap_le_maxLen _ _ _ _ (by rw [Nat.zero_add] at h63; exact h63), ?_, ?_⟩⟩, ⟨rfl, rfl, rfl, by simp, fun k hk _ => Below.heap_alloc w.drew _ k hk⟩, .inr rfl⟩
   ·simp [Builtin.append_, run_underlying ht, run_underlying hti, sizeOf, typeInfo, zeroValue, hz, hzc, hi, asInt, asIntOf, hw, hneg, hbig, hsize, hm, h63', h48', Question.forced, run_firstCells_none, newRow, grownCap]
    rw [show Builtin.zeroCells #[z] m = Array.replicate m z from Array.ext' (by rw [zeroCells_one]; simp)]
   ·have := grownCap_ge w m 0 e
    simp only [Array.size_append, List.size_toArray, size_zeroCells, List.length_replicate]
    simp
    omega
   ·simp only [Array.toList_append]
    rw [← hlen]
    exact List.take_left
 ·by_cases hroom : n + m ≤ cap
  ·have hst := run_storeCells_at P g (n * 1) e (List.replicate m z) 0 cur w hg (by rw [List.length_replicate, hcs]; omega) (fun u hu => by rw [List.eq_of_mem_replicate hu]; exact hz1)
   simp only [Nat.add_zero] at hst
   refine ⟨_, _, ?_, ⟨hlen, .inr ⟨g, cap, _, rfl, hbg, setRow_heap w g cur (cur.toList.take (n * 1) ++ List.replicate m z ++ cur.toList.drop (n * 1 + (List.replicate m z).length)).toArray e _ hg, hroom, hcm, ?_, ?_⟩⟩, ⟨rfl, rfl, rfl, by simp, fun k _ hk => setRow_other w g k _ (fun e => hk (by simp [Value.ownBlock, e]))⟩, .inl rfl⟩
   ·by_cases hm : m = 0
    ·subst hm
     have hw0 : IntKind.i64.wrap 0 = 0 := IntWalk.i64_in _ (by omega)
     simp [Builtin.append_, run_underlying ht, run_underlying hti, sizeOf, typeInfo, hi, asInt, asIntOf, hw0, hnc, storeCells, setRow_self w g cur e (0, 0) hg]
    ·simp [Builtin.append_, run_underlying ht, run_underlying hti, sizeOf, typeInfo, zeroValue, hz, hzc, hi, asInt, asIntOf, hw, hneg, hbig, hroom, hsize, hm]
     simp only [Nat.mul_one, List.length_replicate] at hst
     have ea : (⟨g, 0, Option.none⟩ : Addr).add n = ⟨g, n, Option.none⟩ := by unfold Addr.add; split <;> simp_all
     rw [ea, zeroCells_one, hst]
     simp
   ·simp only [List.size_toArray, List.length_append, List.length_take, List.length_drop, Array.length_toList, List.length_replicate]
    omega
   ·rw [htake, ← hlen]
    exact List.take_left
  ·have hge : cap < n + m := by omega
   have h63' : ¬ (9223372036854775807 < ((n : Int) + (m : Int))) := by omega
   have h48' : ¬ (281474976710656 < Builtin.nextslicecap (n + m) cap * i.bytes) := by have := growslice_fits hge hbytes; omega
   have hfo := run_firstCells_some (P := P) w.drew 1 n ⟨g, 0, Option.none⟩ n cap xs hown.1 (by simpa using hown.cells (g := g) rfl)
   have hm : ¬ m = 0 := by omega
   refine ⟨.slice (some ⟨w.heap.size, 0, Option.none⟩) (n + m) (grownCap w (n + m) cap e), w.drew.alloc (.cells (xs.toArray ++ (List.replicate m z).toArray ++ Builtin.zeroCells #[z] (grownCap w (n + m) cap e - (n + m))) e), ?_, ⟨hlen, .inr ⟨w.heap.size, _, _, rfl, hbase, heap_alloc_new w.drew _, grownCap_ge _ _ _ _, grownCap_le_maxLen _ _ _ _ h63, ?_, ?_⟩⟩, ⟨rfl, rfl, rfl, by simp, fun k hk _ => Below.heap_alloc w.drew _ k hk⟩, .inr rfl⟩
   ·simp [Builtin.append_, run_underlying ht, run_underlying hti, sizeOf, typeInfo, zeroValue, hz, hzc, hi, asInt, asIntOf, hw, hneg, hbig, hroom, hsize, hm, h63', h48', Question.forced, hfo, newRow, grownCap]
    rw [show Builtin.zeroCells #[z] m = Array.replicate m z from Array.ext' (by rw [zeroCells_one]; simp)]
   ·have := grownCap_ge w (n + m) cap e
    simp only [Array.size_append, List.size_toArray, size_zeroCells, hown.1, List.length_replicate, List.size_toArray]
    simp
    omega
   ·simp only [Array.toList_append, List.append_assoc]
    rw [← List.append_assoc, ← hlen]
    exact List.take_left
theorem wp_zeros_own {o : Oper} {a : Act} {K : Act → World → Prop} {Q : Exit → Act → World → Prop} (s x : Operand) (t ti : TypeId)
  (ho : o.op = .call { callee := .builtin .append, args := #[s, x], argTypes := #[t, ti] })
  (base : Nat) (e : TypeId) (i : TypeInfo) (z : Value) (bytes : Nat) (ht : P.underlying t = some (.slice e)) (hti : P.underlying ti = some (.int .i64)) (hi : P.info? e = some i) (hz : i.zero = some z)
  (hsize : i.size = 1) (hby : i.bytes = bytes) (hzc : z.cells = #[z]) (hz1 : z.oneCell' = true)
  (v : Value) (n : Nat) (xs : List Value) (hs : a.eval s = v) (hown : w.ownsRow base e 1 v n xs) (m : Nat) (zm : Int) (hx : a.eval x = .int .i64 zm) (hzm : zm = (m : Int))
  (h63 : n + m ≤ maxLen) (hbytes : (n + m) * bytes ≤ 140737488355328) (hbase : base ≤ w.heap.size)
  (h : ∀ v' w', w'.ownsRow base e 1 v' (n + m) (xs ++ List.replicate m z) → w.grownBy w' v.ownBlock → (v'.ownBlock = v.ownBlock ∨ v'.ownBlock = some w.heap.size) → K (a.put o.dst v') w') : o.wp P a w K Q := by
 subst hzm
 obtain ⟨v', w', hr, h2, h3, h4⟩ := run_zeros_own (P := P) w base t ti o.type e i z bytes ht hti hi hz hsize hby hzc hz1 v n xs hown m h63 hbytes hbase
 unfold Oper.wp execOp
 simp only [ho, resolve, invoke, builtin, Sem.run_bind, Sem.run_pure, Result.andThen_ok, List.map_toArray, List.map_cons, List.map_nil, hs, hx, hr]
 exact h v' w' h2 h3 h4
theorem wpList_zeros_own {ops : Array Oper} {rest : List Oper} {o : Oper} {a : Act} {Q : Exit → Act → World → Prop} (hgd : o.guard = Option.none) (s x : Operand) (t ti : TypeId)
  (ho : o.op = .call { callee := .builtin .append, args := #[s, x], argTypes := #[t, ti] })
  (base : Nat) (e : TypeId) (i : TypeInfo) (z : Value) (bytes : Nat) (ht : P.underlying t = some (.slice e)) (hti : P.underlying ti = some (.int .i64)) (hi : P.info? e = some i) (hz : i.zero = some z)
  (hsize : i.size = 1) (hby : i.bytes = bytes) (hzc : z.cells = #[z]) (hz1 : z.oneCell' = true)
  (v : Value) (n : Nat) (xs : List Value) (hs : a.eval s = v) (hown : w.ownsRow base e 1 v n xs) (m : Nat) (zm : Int) (hx : a.eval x = .int .i64 zm) (hzm : zm = (m : Int))
  (h63 : n + m ≤ maxLen) (hbytes : (n + m) * bytes ≤ 140737488355328) (hbase : base ≤ w.heap.size)
  (h : ∀ v' w', w'.ownsRow base e 1 v' (n + m) (xs ++ List.replicate m z) → w.grownBy w' v.ownBlock → (v'.ownBlock = v.ownBlock ∨ v'.ownBlock = some w.heap.size) → wpList P ops Q rest (a.put o.dst v') w') : wpList P ops Q (o :: rest) a w :=
 wpList_plain hgd fun _ hK => wp_zeros_own w s x t ti ho base e i z bytes ht hti hi hz hsize hby hzc hz1 v n xs hs hown m zm hx hzm h63 hbytes hbase fun v' w' h2 h3 h4 => hK _ _ (h v' w' h2 h3 h4)
end
end Go.Proofs.YtaaeekahhhookaaGreatDoor
