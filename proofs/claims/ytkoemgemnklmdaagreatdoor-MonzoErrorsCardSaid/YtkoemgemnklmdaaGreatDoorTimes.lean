/- decimal: times. -/
import Derived.Test.YtkoemgemnklmdaaGreatDoorTrim
namespace Go.Proofs.YtkoemgemnklmdaaGreatDoor
open Go.RowKit

theorem us_set (l : List Nat) (k v : Nat) : (us l).set k (.int .u64 (v : Int)) = us (l.set k v) := by
  unfold us
  rw [List.map_set]; rfl
theorem us_get (l : List Nat) (k : Nat) (h : k < l.length) : (us l)[k]? = some (.int .u64 ((l[k]?.getD 0 : Nat) : Int)) := by
  unfold us
  rw [List.getElem?_map, List.getElem?_eq_getElem h]; rfl

theorem cells_set_u {w : World} {g : Nat} {e : TypeId} {o : List Nat} (h : Cells w g e (us o)) (k v : Nat) (z : Int) (hz : z = (v : Int)) : Cells (w.setCell ⟨g, k, Option.none⟩ (.int .u64 z)) g e (us (o.set k v)) := by
  subst hz
  rw [← us_set]
  exact h.set k _

/-- What the inner loop has reached: t pieces of r, times a, are added to 'out' from place k on. -/
structure TimesIn (out : List Nat) (a k : Nat) (r : List Nat) (t cy : Nat) (o : List Nat) : Prop where
  small : cy < 1000000000
  len : o.length = out.length
  pcs : Pcs o
  val : pv o + cy * 1000000000 ^ (k + t) = pv out + a * pv (r.take t) * 1000000000 ^ k
  same : ∀ j, k + t ≤ j → o[j]?.getD 0 = out[j]?.getD 0

theorem times_in_start (out : List Nat) (a k : Nat) (r : List Nat) (h : Pcs out) : TimesIn out a k r 0 0 out :=
  ⟨by omega, rfl, h, by simp [pv], fun _ _ => rfl⟩

theorem times_in_step {out : List Nat} {a k : Nat} {r : List Nat} {t cy : Nat} {o : List Nat} (h : TimesIn out a k r t cy o) (x b : Nat) (hx : o[k + t]?.getD 0 = x) (hb : r[t]?.getD 0 = b)
    (ht : t < r.length) (hk : k + t < out.length) (ha : a < 1000000000) (hbb : b < 1000000000) :
    TimesIn out a k r (t + 1) ((cy + (x + a * b)) / 1000000000) (o.set (k + t) ((cy + (x + a * b)) % 1000000000)) := by
  have hxx : x < 1000000000 := by rw [← hx]; exact pcs_getD h.pcs _
  have hab : a * b ≤ 999999999 * 999999999 := Nat.mul_le_mul (by omega) (by omega)
  have hcy := h.small
  refine ⟨by omega, by simp [h.len], pcs_set h.pcs (by omega), ?_, ?_⟩
  · have e0 := pv_set o (k + t) ((cy + (x + a * b)) % 1000000000) (by rw [h.len]; exact hk)
    rw [hx] at e0
    have e1 := h.val
    rw [pv_take_succ r t ht, hb]
    generalize hs : cy + (x + a * b) = s at *
    generalize hP : (1000000000 : Nat) ^ (k + t) = P at *
    have hP2 : (1000000000 : Nat) ^ (k + (t + 1)) = 1000000000 * P := by rw [← hP, ← Nat.add_assoc, Nat.pow_succ, Nat.mul_comm]
    rw [hP2]
    have e2 : (s / 1000000000) * (1000000000 * P) + (s % 1000000000) * P = s * P := by
      rw [← Nat.mul_assoc, ← Nat.add_mul, Nat.mul_comm (s / 1000000000), Nat.div_add_mod]
    have e3 : s * P = cy * P + (x * P + a * b * P) := by rw [← hs, Nat.add_mul, Nat.add_mul]
    have e4 : a * (pv (r.take t) + 1000000000 ^ t * b) * 1000000000 ^ k = a * pv (r.take t) * 1000000000 ^ k + a * b * P := by
      rw [← hP, Nat.pow_add, Nat.mul_add, Nat.add_mul]
      congr 1
      rw [Nat.mul_comm (1000000000 ^ t) b, Nat.mul_assoc, Nat.mul_assoc, Nat.mul_assoc, Nat.mul_comm (1000000000 ^ t)]
    rw [e4]
    omega
  · intro j hj
    rw [List.getElem?_set_ne (by omega)]
    exact h.same j (by omega)

/-- What the outer loop has reached. -/
structure TimesOut (l r : List Nat) (k : Nat) (o : List Nat) : Prop where
  len : o.length = l.length + r.length
  pcs : Pcs o
  val : pv o = pv (l.take k) * pv r
  zero : ∀ j, k + r.length ≤ j → o[j]?.getD 0 = 0

theorem times_out_start (l r : List Nat) : TimesOut l r 0 (List.replicate (l.length + r.length) 0) :=
  ⟨by simp, fun x hx => by rw [List.eq_of_mem_replicate hx]; omega, by rw [pv_zeros _ (fun x hx => List.eq_of_mem_replicate hx)]; simp [pv],
   fun j _ => by rw [List.getElem?_replicate]; split <;> rfl⟩

theorem times_out_step {l r : List Nat} {k : Nat} {out o : List Nat} {cy : Nat} (h : TimesOut l r k out) (a : Nat) (ha : l[k]?.getD 0 = a) (hk : k < l.length)
    (hi : TimesIn out a k r r.length cy o) : TimesOut l r (k + 1) (o.set (k + r.length) cy) := by
  refine ⟨by simp [hi.len, h.len], pcs_set hi.pcs hi.small, ?_, ?_⟩
  · have e0 := pv_set o (k + r.length) cy (by rw [hi.len, h.len]; omega)
    rw [hi.same _ (Nat.le_refl _), h.zero _ (Nat.le_refl _)] at e0
    have e1 := hi.val
    rw [List.take_of_length_le (Nat.le_refl _)] at e1
    rw [pv_take_succ l k hk, ha, Nat.add_mul, ← h.val]
    have e2 : a * pv r * 1000000000 ^ k = 1000000000 ^ k * a * pv r := by
      rw [Nat.mul_comm (a * pv r), Nat.mul_assoc]
    omega
  · intro j hj
    rw [List.getElem?_set_ne (by omega), hi.same j (by omega)]
    exact h.zero j (by omega)

/-- A result that is a row of the call's own: the pieces of a number. -/
def OwnP (base : Nat) (x : Nat) (w' : World) (e : Ending) : Prop := ∃ v, e = .returned v ∧ w'.ownsRow base 101 1 v (pcs x).length (us (pcs x))

theorem Tryz.info_u64 : (Tryz.prog.info? 101).map (fun i => (i.zero, i.size, i.bytes)) = some (some (.int .u64 0), 1, 8) := by kernel_rfl

theorem made_us (n : Nat) : (madeCells (Value.int .u64 0).cells (n * 1)).toList = us (List.replicate n 0) := by
  unfold madeCells us Value.cells
  apply List.ext_getElem
  · simp
  · intro i h1 h2
    simp [Nat.mod_one]

set_option maxHeartbeats 1000000 in
theorem times_any (A1 A2 : Option Addr) (n m c1 c2 : Nat) (l r : List Nat) (w : World) (h1 : Row w w.heap.size 1 A1 n (us l)) (h2 : Row w w.heap.size 1 A2 m (us r))
    (p1 : Pcs l) (p2 : Pcs r) (hn : n ≤ 1000000) (hm : m ≤ 1000000) :
    Calls Tryz.prog 68 #[.slice A1 n c1, .slice A2 m c2] w fun e w' => OwnP w.heap.size (pv l * pv r) w' e ∧ Below w.heap.size w w' := by
  obtain ⟨i0, hi0, hz0, hz1, hz2⟩ := info_parts Tryz.info_u64
  have hll : l.length = n := by have := h1.len; rw [us_length] at this; omega
  have hrl : r.length = m := by have := h2.len; rw [us_length] at this; omega
  have HL := Lib.hid hll
  have HR := Lib.hid hrl
  clear hll hrl
  go_enter Tryz.func68, Tryz.ntmps68
  go_wp2_with (at_make; refine wpList_make_full _ rfl _ _ _ rfl w.heap.size 101 i0 (.int .u64 0) 1 Tryz.underlying103 hi0 hz0 hz1 .i64 .i64 _ _ (n + m) rfl rfl (by omega) (by omega) (by rw [hz2]; omega) (by unfold maxLen; omega) (Nat.le_refl _) ?_; intro w1 hown hg1)
  have hc1 : Cells w1 w.heap.size 101 (us (List.replicate (n + m) 0)) := Cells.of_full (by rw [← made_us]; exact hown)
  have hb1 : Below w.heap.size w w1 := (Below.refl _ _).grown hg1 (Nat.le_refl _) (by simp)
  clear hown hg1
  go_loopw [19] (fun i wr => ∃ (k : Nat) (out : List Nat), k ≤ n ∧ i = .int .i64 k ∧ TimesOut l r k out ∧ Cells wr w.heap.size 101 (us out) ∧ Below w.heap.size w wr) (fun i _ => n - (intOf i).toNat)
  case atStart => exact ⟨0, _, Nat.zero_le _, rfl, by rw [← HL.out, ← HR.out] at hc1 ⊢; exact times_out_start l r, hc1, hb1⟩
  case round =>
    clear hc1 hb1
    obtain ⟨k, out, hk, rfl, ht, hcl, hbw⟩ := hrel
    by_cases hlt : k < n
    · obtain ⟨ad, rfl, _, hca⟩ := (h1.below hbw (Nat.le_refl _)).u_at hlt
      have hal : l[k]?.getD 0 < 1000000000 := pcs_getD p1 k
      generalize ha : l[k]?.getD 0 = a at hca hal
      have HA := Lib.hid ha
      clear ha
      go_wp2
      obtain ⟨wo, rfl⟩ : ∃ wo : World, wo = wr := ⟨_, rfl⟩
      go_loopw [8, 26] (fun cr j wr => ∃ (t cy : Nat) (o : List Nat), t ≤ m ∧ j = .int .i64 t ∧ cr = .int .u64 cy ∧ TimesIn out a k r t cy o ∧ Cells wr w.heap.size 101 (us o) ∧ Below w.heap.size w wr) (fun _ j _ => m - (intOf j).toNat)
      case atStart => exact ⟨0, 0, out, Nat.zero_le _, rfl, rfl, times_in_start _ _ _ _ ht.pcs, hcl, hbw⟩
      case round =>
        clear hcl hbw hca
        obtain ⟨t, cy, o, htm, rfl, rfl, hti, hcl, hbw⟩ := hrel
        have hcy := hti.small
        have hol : o.length = n + m := by rw [hti.len, ht.len, HL.out, HR.out]
        have HO := Lib.hid hol
        clear hol
        by_cases htl : t < m
        · obtain ⟨ad2, rfl, _, hcb⟩ := (h2.below hbw (Nat.le_refl _)).u_at htl
          have hbl : r[t]?.getD 0 < 1000000000 := pcs_getD p2 t
          generalize hb : r[t]?.getD 0 = b at hcb hbl
          have hco := hcl.cell (k + t)
          rw [us_get o (k + t) (by rw [HO.out]; omega)] at hco
          have hxl : o[k + t]?.getD 0 < 1000000000 := pcs_getD hti.pcs _
          generalize hx : o[k + t]?.getD 0 = x at hco hxl
          have HB := Lib.hid hb
          have HX := Lib.hid hx
          clear hb hx
          have hfo := hcl.free (k + t)
          have hab : a * b ≤ 999999999 * 999999999 := Nat.mul_le_mul (by omega) (by omega)
          have hab1 : (a : Int) * (b : Int) ≤ 999999998000000001 := by have : ((a * b : Nat) : Int) ≤ 999999998000000001 := by omega
                                                                       rwa [Int.natCast_mul] at this
          have hab0 : 0 ≤ (a : Int) * (b : Int) := by rw [← Int.natCast_mul]; omega
          go_wp2
          go_roundw
          case rel =>
            have hst := times_in_step hti x b HX.out HB.out (by rw [HR.out]; exact htl) (by rw [ht.len, HL.out, HR.out]; omega) hal hbl
            refine ⟨t + 1, _, _, by omega, by go_num, ?_, hst, ?_, hbw.setCell (Nat.le_refl _) _⟩
            · go_num
            · exact cells_set_u hcl _ _ _ (by simp)
          case measure => simp [intOf]; omega
        · obtain rfl : t = m := by omega
          have hco := hcl.cell (k + t)
          rw [us_get o (k + t) (by rw [HO.out]; omega)] at hco
          generalize hx : o[k + t]?.getD 0 = x at hco
          clear hx
          have hfo := hcl.free (k + t)
          go_wp2
          go_roundw
          case rel =>
            have hti' : TimesIn out a k r r.length cy o := by rw [HR.out]; exact hti
            have hst := times_out_step ht a HA.out (by rw [HL.out]; exact hlt) hti'
            rw [HR.out] at hst
            refine ⟨k + 1, _, by omega, by go_num, hst, ?_, hbw.setCell (Nat.le_refl _) _⟩
            exact cells_set_u hcl _ _ _ rfl
          case measure => simp [intOf]; omega
    · obtain rfl : k = n := by omega
      have hrow := hcl.row (B := w.heap.size + 1) (n := k + m) (by omega) (by rw [us_length, ht.len, HL.out, HR.out])
      go_wp2_with (go_at_call 109; refine (trim_any _ _ _ _ out _ hrow (Nat.le_refl _) (by unfold maxLen; omega) ht.pcs).mono ?_; rintro e w' ⟨rfl, rfl⟩)
      go_ret
      refine ⟨⟨_, rfl, ?_⟩, hbw⟩
      have hv : pv out = pv l * pv r := by rw [ht.val, List.take_of_length_le (by rw [HL.out]; exact Nat.le_refl _)]
      obtain ⟨hle, htk⟩ := trim_take out ht.pcs
      rw [← hv]
      have ho := hcl.own (base := w.heap.size) (n := k + m) (k := (pcs (pv out)).length) (Nat.le_refl _) (by rw [us_length, ht.len, HL.out, HR.out]) (by unfold maxLen; omega) (by rw [ht.len, HL.out, HR.out] at hle; exact hle)
      rw [← us_take, htk] at ho
      exact ho

end Go.Proofs.YtkoemgemnklmdaaGreatDoor
