/- schismaref03.FloorW of numbers that are not negative. The plain law of the numbers of a chord. The plain law of the numbers of a chord: how great the law's numbers are. Lists of fractions, and of schismaref03's numbers. schismalaw39.proportion: its callees and its first region. The lists of fractions of ChordNumbers, and how long its numbers are. -/
import Derived.Test.YtaiglcbgllnciaaGreatDoorGRNu
import Derived.Deep.RegionHeld3
import Derived.Test.YtaiglcbgllnciaaGreatDoorGTANu
import Derived.Test.YtaiglcbgllnciaaGreatDoorGCMNu
import Derived.Test.YtaiglcbgllnciaaGreatDoorGCENu
import Derived.Deep.DeepCutAuto
import Derived.Test.YtaiglcbgllnciaaGreatDoorGQNu
import Derived.Test.YtaiglcbgllnciaaGreatDoorGCFNu
namespace Go.Proofs.YtaiglcbgllnciaaGreatDoor
open Go.RowKit Go.Lib

/-- A world behind the store of a struct of two cells. -/
abbrev st2 (W : World) (g : Nat) (a b : Value) : World := (W.setCell ⟨g, 0, Option.none⟩ a).setCell ⟨g, 1, Option.none⟩ b
theorem st2_same {W : World} {g : Nat} {T : TypeId} {x y a b : Value} (h : Cells W g T [x, y]) : Cells (st2 W g a b) g T [a, b] := (h.set 0 a).set 1 b
theorem st2_far {W : World} {g g' : Nat} {T : TypeId} {xs : List Value} {a b : Value} (hne : g' ≠ g) (h : Cells W g' T xs) : Cells (st2 W g a b) g' T xs := (h.far (p := ⟨g, 0, Option.none⟩) hne a).far (p := ⟨g, 1, Option.none⟩) hne b
theorem st2_row {W : World} {g : Nat} {T : TypeId} {xs : List Value} {a b v : Value} {x : List Int} (h : TRow W v x) (hc : Cells W g T xs) (hT : T ≠ 3) : TRow (st2 W g a b) v x := (h.set hc hT a).set (hc.set 0 a) hT b
theorem st2_below {w W : World} {s g : Nat} {a b : Value} (hg : s ≤ g) (h : Below s w W) : Below s w (st2 W g a b) := (h.setCell (p := ⟨g, 0, Option.none⟩) hg a).setCell (p := ⟨g, 1, Option.none⟩) hg b

theorem below_drw {B : Nat} {w w' : World} (h : Below B w w') : Below B w w'.drew := ⟨h.os, h.tape, h.output, h.size, h.block⟩

def sgN (n : Nat) : Int := if n = 0 then 0 else 1
theorem sgN_nn (n : Nat) : 0 ≤ sgN n := by unfold sgN; split <;> decide
set_option maxRecDepth 100000 in
theorem sign03_sh (A : Option Addr) (n c : Nat) (w : World) :
    Calls Tryz.prog 90 #[.agg #[.bool false, .slice A n c]] w fun e w' => e = .returned (.int .i64 (sgN n)) ∧ Below w.heap.size w w' := by
  by_cases h0 : n = 0
  · have HE : Box (sgN n = 0) := ⟨by unfold sgN; rw [if_pos h0]⟩
    have hz : ((n : Int) == 0) = true := by rw [h0]; rfl
    clear h0
    go_enter Tryz.func90, Tryz.ntmps90
    go_wp2_with fail
    go_ret
    exact ⟨ret_int HE.out.symm, (Below.refl _ _).alloc (Nat.le_refl _) _⟩
  · have hz : ((n : Int) == 0) = false := by rw [beq_eq_false_iff_ne]; omega
    have HE : Box (sgN n = 1) := ⟨by unfold sgN; rw [if_neg h0]⟩
    clear h0
    go_enter Tryz.func90, Tryz.ntmps90
    go_wp2_with fail
    go_ret
    exact ⟨ret_int HE.out.symm, (Below.refl _ _).alloc (Nat.le_refl _) _⟩

set_option maxRecDepth 100000 in
set_option maxHeartbeats 4000000 in
theorem floorW_any (b2 : Bool) (v1 v2 : Value) (x y : Nat) (w : World) (h1 : TRow w v1 (pcsI x)) (h2 : TRow w v2 (pcsI y)) (hy0 : 0 < y) (hx : (pcs x).length ≤ 50000) (hy : (pcs y).length ≤ 50000) :
    Calls Tryz.prog 58 #[.agg #[.bool false, v1], .agg #[.bool b2, v2]] w fun e w' => (∃ A c A2 c2, e = .returned (.tuple #[.agg #[.bool false, .slice A (pcs (x / y)).length c], .agg #[.bool false, .slice A2 (pcs (x % y)).length c2]]) ∧ TRow w' (.slice A (pcs (x / y)).length c) (pcsI (x / y))) ∧ Below w.heap.size w w' := by
  have HDV := Lib.hid (fun W h1 h2 => divide03_any v1 v2 x y W h1 h2 hy0 hx hy)
  have H1 := Lib.hid h1
  have H2 := Lib.hid h2
  obtain ⟨A1, c1, rfl, _⟩ := h1.isRow
  obtain ⟨A2, c2, rfl, _⟩ := h2.isRow
  rw [pcsI_len] at H1 H2 HDV ⊢
  rw [pcsI_len] at HDV ⊢
  have HTQ := Lib.hid (fun A c W hW => trim03_pcs false A c _ (pcs (x / y)) W rfl hW (pcs_lt _))
  have HTR := Lib.hid (fun A c W hW => trim03_pcs false A c _ (pcs (x % y)) W rfl hW (pcs_lt _))
  rw [pv_pcs] at HTQ HTR
  have HSG := Lib.hid (fun A c W => sign03_sh A (pcs (x % y)).length c W)
  have hsg := sgN_nn (pcs (x % y)).length
  obtain ⟨q, hq⟩ : ∃ q, x / y = q := ⟨_, rfl⟩
  obtain ⟨r, hr⟩ : ∃ r, x % y = r := ⟨_, rfl⟩
  rw [hq, hr] at HDV
  rw [hq] at HTQ
  rw [hr] at HTR HSG hsg
  rw [hq, hr]
  rw [show (false && decide (0 < q)) = false from rfl] at HTQ
  rw [show (false && decide (0 < r)) = false from rfl] at HTR
  obtain ⟨n1, hn1⟩ : ∃ n, (pcs x).length = n := ⟨_, rfl⟩
  obtain ⟨n2, hn2⟩ : ∃ n, (pcs y).length = n := ⟨_, rfl⟩
  obtain ⟨nq, hnq⟩ : ∃ n, (pcs q).length = n := ⟨_, rfl⟩
  obtain ⟨nr, hnr⟩ : ∃ n, (pcs r).length = n := ⟨_, rfl⟩
  rw [hn1] at H1 HDV ⊢
  rw [hn2] at H2 HDV ⊢
  rw [hnq] at HDV HTQ ⊢
  rw [hnr] at HDV HTR HSG hsg ⊢
  obtain ⟨sg, hsge⟩ : ∃ sg, sgN nr = sg := ⟨_, rfl⟩
  rw [hsge] at HSG hsg
  clear h1 h2 hy0 hx hy hq hr hn1 hn2 hnq hnr hsge
  go_enter Tryz.func58, Tryz.ntmps58
  go_wp2_with fail
  obtain ⟨W4, hW4⟩ : ∃ W4, W4 = (((w.alloc (.cells #[.bool false, .slice A1 n1 c1] 93)).alloc (.cells #[.bool b2, .slice A2 n2 c2] 93)).alloc (.cells #[.bool false, .slice Option.none 0 0] 93)).alloc (.cells #[.bool false, .slice Option.none 0 0] 93) := ⟨_, rfl⟩
  have C1 : Cells W4 w.heap.size 93 [.bool false, .slice A1 n1 c1] := by rw [hW4]; exact (((Cells.new w _ _).alloc _).alloc _).alloc _
  have C3 : Cells W4 (w.heap.size + 1 + 1) 93 [.bool false, .slice Option.none 0 0] := by
    have h := Cells.new ((w.alloc (.cells #[.bool false, .slice A1 n1 c1] 93)).alloc (.cells #[.bool b2, .slice A2 n2 c2] 93)) 93 #[.bool false, .slice Option.none 0 0]
    rw [World.size_alloc, World.size_alloc] at h
    rw [hW4]; exact h.alloc _
  have C4 : Cells W4 (w.heap.size + 1 + 1 + 1) 93 [.bool false, .slice Option.none 0 0] := by
    have h := Cells.new (((w.alloc (.cells #[.bool false, .slice A1 n1 c1] 93)).alloc (.cells #[.bool b2, .slice A2 n2 c2] 93)).alloc (.cells #[.bool false, .slice Option.none 0 0] 93)) 93 #[.bool false, .slice Option.none 0 0]
    rw [World.size_alloc, World.size_alloc, World.size_alloc] at h
    rw [hW4]; exact h
  have hbw : Below w.heap.size w W4 := by rw [hW4]; exact ((((Below.refl _ _).alloc (Nat.le_refl _) _).alloc (by simp) _).alloc (by simp; omega) _).alloc (by simp; omega) _
  rw [← hW4]
  clear hW4
  refine (HDV.out _ (H1.out.below hbw) (H2.out.below hbw)).mono ?_
  rintro e w5 ⟨⟨A5, c5, A6, c6, rfl, ht5, ht6⟩, hb5⟩
  have K1 := Lib.hid (C1.below hb5 C1.lt)
  have KA := Lib.hid (C3.below hb5 C3.lt)
  have KB := Lib.hid (C4.below hb5 C4.lt)
  have BL := Lib.hid (hbw.trans (hb5.mono hbw.size))
  have TA := Lib.hid ht5
  have HTQ2 := Lib.hid (fun (W : World) (hb : Below w5.heap.size w5 W) => HTQ.out A5 c5 W (ht5.below hb))
  have HTR2 := Lib.hid (fun (W : World) (hb : Below w5.heap.size w5 W) => HTR.out A6 c6 W (ht6.below hb))
  have p0 := K1.out.cell 0
  simp only [List.getElem?_cons_zero] at p0
  clear hb5 HDV C1 C3 C4 hbw ht5 ht6 H1 H2 HTQ HTR
  have hB : Below w5.heap.size w5 w5.drew := below_drw (Below.refl _ _)
  go_wp2_with fail
  go_region_held3 (fun w' => w'.cell? ⟨w.heap.size, 0, Option.none⟩ = some (.bool false))
    (first | exact keep_cell p0 hB | exact cell_set_far (cell_set_far (keep_cell p0 hB) (by dsimp only; omega)) (by dsimp only; omega) | exact cell_set_far (cell_set_far (cell_set_far (cell_set_far (keep_cell p0 hB) (by dsimp only; omega)) (by dsimp only; omega)) (by dsimp only; omega)) (by dsimp only; omega) | go_keep)
    ((first
      | (go_at_call 89; (with_reducible refine (HTQ2.out _ hB).mono ?_); rintro e w7 ⟨rfl, _, hbk⟩; replace hB := hB.trans (hbk.mono hB.size); clear hbk; have zA0 := (KA.out.below hB KA.out.lt).cell 0; have zA1 := (KA.out.below hB KA.out.lt).cell 1; have zB0 := (KB.out.below hB KB.out.lt).cell 0; have zB1 := (KB.out.below hB KB.out.lt).cell 1; have fA0 := (KA.out.below hB KA.out.lt).free 0; have fA1 := (KA.out.below hB KA.out.lt).free 1; have fB0 := (KB.out.below hB KB.out.lt).free 0; have fB1 := (KB.out.below hB KB.out.lt).free 1; simp only [List.getElem?_cons_succ, List.getElem?_cons_zero] at zA0 zA1 zB0 zB1)
      | (go_at_call 89; (with_reducible refine (HTR2.out _ hB).mono ?_); rintro e w7 ⟨rfl, _, hbk⟩; replace hB := hB.trans (hbk.mono hB.size); clear hbk; have zA0 := (KA.out.below hB KA.out.lt).cell 0; have zA1 := (KA.out.below hB KA.out.lt).cell 1; have zB0 := (KB.out.below hB KB.out.lt).cell 0; have zB1 := (KB.out.below hB KB.out.lt).cell 1; have fA0 := (KA.out.below hB KA.out.lt).free 0; have fA1 := (KA.out.below hB KA.out.lt).free 1; have fB0 := (KB.out.below hB KB.out.lt).free 0; have fB1 := (KB.out.below hB KB.out.lt).free 1; simp only [List.getElem?_cons_succ, List.getElem?_cons_zero] at zA0 zA1 zB0 zB1)))
  obtain ⟨W9, hW9⟩ : ∃ W9, W9 = st2 (st2 w7 (w.heap.size + 1 + 1) (.bool false) (.slice A5 nq c5)) (w.heap.size + 1 + 1 + 1) (.bool false) (.slice A6 nr c6) := ⟨_, rfl⟩
  have GA : Hid (Cells W9 (w.heap.size + 1 + 1) 93 [.bool false, .slice A5 nq c5]) := Lib.hid (by rw [hW9]; exact st2_far (by omega) (st2_same (KA.out.below hB KA.out.lt)))
  have GB : Hid (Cells W9 (w.heap.size + 1 + 1 + 1) 93 [.bool false, .slice A6 nr c6]) := Lib.hid (by rw [hW9]; exact st2_same (st2_far (by omega) (KB.out.below hB KB.out.lt)))
  have GT : Hid (TRow W9 (.slice A5 nq c5) (pcsI q)) := Lib.hid (by rw [hW9]; exact st2_row (st2_row (TA.out.below hB) (KA.out.below hB KA.out.lt) (by decide)) (st2_far (by omega) (KB.out.below hB KB.out.lt)) (by decide))
  have GL : Hid (Below w.heap.size w W9) := Lib.hid (by rw [hW9]; exact st2_below (by omega) (st2_below (by omega) (BL.out.trans (hB.mono BL.out.size))))
  go_wp2_with fail
  refine (HSG.out A6 c6 _).mono ?_
  rintro e w10 ⟨rfl, hbs⟩
  have hbs2 : Below W9.heap.size W9 w10 := by rw [hW9]; exact hbs
  have GA2 := Lib.hid (GA.out.below hbs2 GA.out.lt)
  have GB2 := Lib.hid (GB.out.below hbs2 GB.out.lt)
  have GT2 := Lib.hid (GT.out.below hbs2)
  have GL2 := Lib.hid (GL.out.trans (hbs2.mono GL.out.size))
  clear hbs hbs2 hW9 zA0 zA1 zB0 zB1 fA0 fA1 fB0 fB1 GA GB GT GL hB KA KB K1 TA BL HSG HTQ2 HTR2
  have zA0 := GA2.out.cell 0
  have zA1 := GA2.out.cell 1
  have zB0 := GB2.out.cell 0
  have zB1 := GB2.out.cell 1
  have fA0 := GA2.out.free 0
  have fA1 := GA2.out.free 1
  have fB0 := GB2.out.free 0
  have fB1 := GB2.out.free 1
  simp only [List.getElem?_cons_succ, List.getElem?_cons_zero] at zA0 zA1 zB0 zB1
  go_wp2_with fail
  have cA1 := (st2_same (a := .bool false) (b := .slice A5 nq c5) GA2.out).drew
  have cB1 := (st2_far (a := .bool false) (b := .slice A5 nq c5) (by omega : w.heap.size + 1 + 1 + 1 ≠ w.heap.size + 1 + 1) GB2.out).drew
  have cA2 := (st2_far (a := .bool false) (b := .slice A6 nr c6) (by omega : w.heap.size + 1 + 1 ≠ w.heap.size + 1 + 1 + 1) (st2_same (a := .bool false) (b := .slice A5 nq c5) GA2.out)).drew
  have cB2 := (st2_same (a := .bool false) (b := .slice A6 nr c6) (st2_far (a := .bool false) (b := .slice A5 nq c5) (by omega : w.heap.size + 1 + 1 + 1 ≠ w.heap.size + 1 + 1) GB2.out)).drew
  have CA1 := Lib.hid cA1
  have CB1 := Lib.hid cB1
  have CA2 := Lib.hid cA2
  have CB2 := Lib.hid cB2
  clear cA1 cB1 cA2 cB2
  go_region_held3 (fun w' => w'.cell? ⟨w.heap.size + 1 + 1, 0, Option.none⟩ = some (.bool false) ∧ w'.cell? ⟨w.heap.size + 1 + 1, 1, Option.none⟩ = some (.slice A5 nq c5) ∧ w'.cell? ⟨w.heap.size + 1 + 1 + 1, 0, Option.none⟩ = some (.bool false) ∧ w'.cell? ⟨w.heap.size + 1 + 1 + 1, 1, Option.none⟩ = some (.slice A6 nr c6)) (first | exact ⟨CA1.out.cell 0, CA1.out.cell 1, CB1.out.cell 0, CB1.out.cell 1⟩ | exact ⟨CA2.out.cell 0, CA2.out.cell 1, CB2.out.cell 0, CB2.out.cell 1⟩ | go_keep) (fail)
  have z2A0 := CA2.out.cell 0
  have z2A1 := CA2.out.cell 1
  have z2B0 := CB2.out.cell 0
  have z2B1 := CB2.out.cell 1
  simp only [List.getElem?_cons_succ, List.getElem?_cons_zero] at z2A0 z2A1 z2B0 z2B1
  go_wp2_with fail
  refine bodyPost_ret (v := .tuple #[.agg #[.bool false, .slice A5 nq c5], .agg #[.bool false, .slice A6 nr c6]]) (by simp (maxDischargeDepth := 10) [results, Tryz.results58, go_sem, z2A0, z2A1, z2B0, z2B1]) rfl ⟨⟨_, _, _, _, rfl, ?_⟩, ?_⟩
  · exact (st2_row (st2_row GT2.out GA2.out (by decide)) (st2_far (by omega) GB2.out) (by decide)).below (below_drw (Below.refl _ _))
  · exact below_drw (st2_below (by omega) (st2_below (by omega) GL2.out))

end Go.Proofs.YtaiglcbgllnciaaGreatDoor

namespace Go.Proofs.YtaiglcbgllnciaaGreatDoor
open Go.RowKit Go.Lib

theorem pp_copL (p : List Int) (f : Nat → Nat) (r : Nat) : ∀ n, (∀ i, i < n → Nat.Coprime ((p[i]?.getD 0).toNat ^ f i) r) → Nat.Coprime (pp p f 0 n) r
  | 0, _ => Nat.coprime_one_left r
  | n + 1, h => by
    rw [pp, Nat.zero_add]
    exact (pp_copL p f r n fun i h1 => h i (by omega)).mul_left (h n (by omega))
theorem pp_copR (p : List Int) (g : Nat → Nat) (r : Nat) : ∀ n, (∀ i, i < n → Nat.Coprime r ((p[i]?.getD 0).toNat ^ g i)) → Nat.Coprime r (pp p g 0 n)
  | 0, _ => Nat.coprime_one_right r
  | n + 1, h => by
    rw [pp, Nat.zero_add]
    exact (pp_copR p g r n fun i h1 => h i (by omega)).mul_right (h n (by omega))
theorem pp_disjN {p : List Int} (hp : Primed p) (f g : Nat → Nat) (h : ∀ i, f i = 0 ∨ g i = 0) : Nat.Coprime (pp p f 0 p.length) (pp p g 0 p.length) := by
  refine pp_copL p f _ _ fun i hi => pp_copR p g _ _ fun j hj => ?_
  rcases h i with h0 | h0
  · rw [h0, Nat.pow_zero]; exact Nat.coprime_one_left _
  · rcases Nat.lt_trichotomy i j with hij | rfl | hij
    · exact ((hp.cop i j hij hj).pow_left _).pow_right _
    · rw [h0, Nat.pow_zero]; exact Nat.coprime_one_right _
    · exact (((hp.cop j i hij hi).symm).pow_left _).pow_right _
theorem num_den_cop {p x : List Int} (hp : Primed p) (h : x.length = p.length) : Nat.gcd (num p x) (den p x) = 1 := by
  rw [num_pp h, den_pp h]
  exact pp_disjN hp _ _ fun i => by unfold upE downE; omega
theorem pp_zero_cop {p : List Int} (hp : Primed p) (f : Nat → Nat) {k : Nat} (hk : k < p.length) (h : f k = 0) : Nat.Coprime (pp p f 0 p.length) (p[k]?.getD 0).toNat := by
  refine pp_copL p f _ _ fun i hi => ?_
  rcases Nat.lt_trichotomy i k with hij | rfl | hij
  · exact (hp.cop i k hij hk).pow_left _
  · rw [h, Nat.pow_zero]; exact Nat.coprime_one_left _
  · exact ((hp.cop k i hij hi).symm).pow_left _
theorem pp_le {p : List Int} (hp : Primed p) (f : Nat → Nat) {e : Nat} (h : ∀ i, f i ≤ e) : ∀ n, n ≤ p.length → pp p f 0 n ≤ 100 ^ (e * n)
  | 0, _ => Nat.le_refl _
  | n + 1, hn => by
    have ih := pp_le hp f h n (by omega)
    have h2 := hp.pr n (by omega)
    rw [pp, Nat.zero_add, Nat.mul_succ, Nat.pow_add]
    exact Nat.mul_le_mul ih (Nat.le_trans (Nat.pow_le_pow_left (show (p[n]?.getD 0).toNat ≤ 100 by omega) _) (Nat.pow_le_pow_right (by omega) (h n)))

/-! The numbers of a chord and the fractions of its notes. -/
/-- The parts of a note's fraction, or of its inverse. -/
def upN (inv : Bool) (p x : List Int) : Nat := if inv then den p x else num p x
def dnN (inv : Bool) (p x : List Int) : Nat := if inv then num p x else den p x
theorem numPT_pp (p : List Int) (inv : Bool) (c : List (List Int)) (x : List Int) : ∀ k, numPT p inv c x k = pp p (fun i => (x[i]?.getD 0 - extX inv c x i).natAbs) 0 k
  | 0 => rfl
  | k + 1 => by rw [numPT, pp, numPT_pp p inv c x k, Nat.zero_add]
theorem extX_same {inv : Bool} {c : List (List Int)} {x y : List Int} (hx : x ∈ c) (hy : y ∈ c) (k : Nat) : extX inv c x k = extX inv c y k := by
  cases inv with
  | false =>
    obtain ⟨a1, u, hu, e1⟩ := extX_no hx k
    obtain ⟨a2, v, hv, e2⟩ := extX_no hy k
    have := a1 v hv
    have := a2 u hu
    omega
  | true =>
    obtain ⟨a1, u, hu, e1⟩ := extX_yes hx k
    obtain ⟨a2, v, hv, e2⟩ := extX_yes hy k
    have := a1 v hv
    have := a2 u hu
    omega
section
variable {p : List Int} {inv : Bool} {c : List (List Int)}
theorem up_pos (hp : Primed p) {x : List Int} (hx : x.length = p.length) : 0 < upN inv p x ∧ 0 < dnN inv p x := by
  have h1 := num_pos hp hx
  have h2 := den_pos hp hx
  unfold upN dnN
  cases inv
  · exact ⟨h1, h2⟩
  · exact ⟨h2, h1⟩
/-- The numbers are in proportion to the fractions. -/
theorem num_cross (hp : Primed p) (hl : ∀ x ∈ c, x.length = p.length) : ∃ A B, 0 < A ∧ 0 < B ∧ ∀ x ∈ c, numPT p inv c x p.length * dnN inv p x * A = upN inv p x * B := by
  have h2 : ∀ k, k < p.length → 2 ≤ p[k]?.getD 0 := fun k hk => (hp.pr k hk).1
  have key : ∀ x ∈ c, numPT p inv c x p.length * dnN inv p x * pp p (fun i => ((if inv then -1 else 1) * extX inv c (c[0]?.getD []) i).toNat) 0 p.length = upN inv p x * pp p (fun i => (-((if inv then -1 else 1) * extX inv c (c[0]?.getD []) i)).toNat) 0 p.length := fun x hx => by
    have hm : c[0]?.getD [] ∈ c := by
      have h0 : 0 < c.length := List.length_pos_of_mem hx
      rw [List.getElem?_eq_getElem h0]
      exact List.getElem_mem h0
    rw [numPT_pp]
    cases inv with
    | false =>
      simp only [upN, dnN, if_false, Bool.false_eq_true]
      rw [num_pp (hl x hx), den_pp (hl x hx), ← pp_add, ← pp_add, ← pp_add]
      refine pp_congr p 0 _ fun i _ _ => ?_
      have e := extX_same (inv := false) hx hm i
      have e2 := (extX_no hx i).1 x hx
      unfold upE downE
      rw [← e, Int.one_mul]
      omega
    | true =>
      simp only [upN, dnN, if_true]
      rw [num_pp (hl x hx), den_pp (hl x hx), ← pp_add, ← pp_add, ← pp_add]
      refine pp_congr p 0 _ fun i _ _ => ?_
      have e := extX_same (inv := true) hx hm i
      have e2 := (extX_yes hx i).1 x hx
      unfold upE downE
      rw [← e, Int.neg_one_mul]
      omega
  exact ⟨_, _, pp_pos p _ h2 0 _ (by omega), pp_pos p _ h2 0 _ (by omega), key⟩
/-- The numbers have no common divisor. -/
theorem num_gcd (hp : Primed p) (h0 : 0 < c.length) {g : Nat} (h : ∀ x ∈ c, g ∣ numPT p inv c x p.length) : g = 1 := by
  have hk : ∀ k, k < p.length → Nat.Coprime g (p[k]?.getD 0).toNat := fun k hk => by
    have hm := List.getElem_mem h0
    obtain ⟨y, hy, e⟩ : ∃ y ∈ c, extX inv c c[0] k = y[k]?.getD 0 := by
      cases inv
      · exact (extX_no hm k).2
      · exact (extX_yes hm k).2
    have e2 := extX_same (inv := inv) hm hy k
    have hd := h y hy
    rw [numPT_pp] at hd
    exact Nat.Coprime.coprime_dvd_left hd (pp_zero_cop hp _ hk (by show (y[k]?.getD 0 - extX inv c y k).natAbs = 0; omega))
  have hd := h c[0] (List.getElem_mem h0)
  rw [numPT_pp] at hd
  refine Nat.Coprime.eq_one_of_dvd (pp_coprime p _ g 0 _ fun i _ hi => hk i (by omega)) hd
end

/-! The law's proportion. -/
def comTo (ds : List Nat) : Nat → Nat
  | 0 => 1
  | k + 1 => ds[k]?.getD 0 / Nat.gcd (comTo ds k) (ds[k]?.getD 0) * comTo ds k
def nrTo (us ds : List Nat) (k : Nat) : List Nat := (List.range k).map fun j => comTo ds ds.length / (ds[j]?.getD 0) * (us[j]?.getD 0)
def allTo (ns : List Nat) : Nat → Nat
  | 0 => 0
  | k + 1 => Nat.gcd (allTo ns k) (ns[k]?.getD 0)
def quoTo (ns : List Nat) (g k : Nat) : List Nat := (ns.take k).map fun n => n / g
def propL (us ds : List Nat) : List Nat := quoTo (nrTo us ds ds.length) (allTo (nrTo us ds ds.length) ds.length) ds.length
theorem nrTo_len (us ds : List Nat) (k : Nat) : (nrTo us ds k).length = k := by unfold nrTo; rw [List.length_map, List.length_range]
theorem nrTo_get {us ds : List Nat} {j k : Nat} (h : j < k) : (nrTo us ds k)[j]?.getD 0 = comTo ds ds.length / (ds[j]?.getD 0) * (us[j]?.getD 0) := by
  unfold nrTo
  rw [List.getElem?_map, List.getElem?_range h]
  rfl
theorem quoTo_len {ns : List Nat} {g k : Nat} (h : k ≤ ns.length) : (quoTo ns g k).length = k := by unfold quoTo; rw [List.length_map, List.length_take]; omega
theorem comTo_pos {ds : List Nat} (hd : ∀ j, j < ds.length → 0 < ds[j]?.getD 0) : ∀ k, k ≤ ds.length → 0 < comTo ds k
  | 0, _ => Nat.one_pos
  | k + 1, hk => by
    have h1 := hd k hk
    have h2 := comTo_pos hd k (by omega)
    rw [comTo]
    exact Nat.mul_pos (Nat.div_pos (Nat.le_of_dvd h1 (Nat.gcd_dvd_right _ _)) (Nat.gcd_pos_of_pos_right _ h1)) h2
theorem comTo_step (ds : List Nat) (k : Nat) : comTo ds k ∣ comTo ds (k + 1) ∧ ds[k]?.getD 0 ∣ comTo ds (k + 1) := by
  rw [comTo]
  refine ⟨Nat.dvd_mul_left _ _, ?_⟩
  generalize ds[k]?.getD 0 = d
  generalize comTo ds k = m
  obtain ⟨u, hu⟩ := Nat.gcd_dvd_left m d
  have hd := Nat.div_mul_cancel (Nat.gcd_dvd_right m d)
  refine ⟨u, ?_⟩
  generalize d / Nat.gcd m d = q at *
  generalize Nat.gcd m d = g at *
  subst hu
  rw [← hd, Nat.mul_assoc]
theorem comTo_dvd {ds : List Nat} : ∀ k j, j < k → ds[j]?.getD 0 ∣ comTo ds k
  | 0, j, h => absurd h (by omega)
  | k + 1, j, h => by
    by_cases e : j = k
    · subst e; exact (comTo_step ds j).2
    · exact Nat.dvd_trans (comTo_dvd k j (by omega)) (comTo_step ds k).1
theorem allTo_dvd {ns : List Nat} : ∀ k j, j < k → allTo ns k ∣ ns[j]?.getD 0
  | 0, j, h => absurd h (by omega)
  | k + 1, j, h => by
    rw [allTo]
    by_cases e : j = k
    · subst e; exact Nat.gcd_dvd_right _ _
    · exact Nat.dvd_trans (Nat.gcd_dvd_left _ _) (allTo_dvd k j (by omega))
theorem allTo_max {ns : List Nat} {g : Nat} : ∀ k, (∀ j, j < k → g ∣ ns[j]?.getD 0) → g ∣ allTo ns k
  | 0, _ => Nat.dvd_zero g
  | k + 1, h => by
    rw [allTo]
    exact Nat.dvd_gcd (allTo_max k fun j hj => h j (by omega)) (h k (by omega))
/-- Lists without a common divisor that are in proportion are equal. -/
theorem prop_eq {n : Nat} {q m : Nat → Nat} {P Q : Nat} (hP : 0 < P) (h : ∀ j, j < n → q j * P = m j * Q) (h1 : ∀ g, (∀ j, j < n → g ∣ q j) → g = 1) (h2 : ∀ g, (∀ j, j < n → g ∣ m j) → g = 1) : ∀ j, j < n → q j = m j := by
  obtain ⟨h, p1, q1, hh, hc, e1, e2⟩ : ∃ h p1 q1, 0 < h ∧ Nat.Coprime p1 q1 ∧ P = h * p1 ∧ Q = h * q1 := by
    have hg : 0 < Nat.gcd P Q := Nat.gcd_pos_of_pos_left _ hP
    exact ⟨Nat.gcd P Q, P / Nat.gcd P Q, Q / Nat.gcd P Q, hg, Nat.coprime_div_gcd_div_gcd hg, (Nat.mul_div_cancel' (Nat.gcd_dvd_left P Q)).symm, (Nat.mul_div_cancel' (Nat.gcd_dvd_right P Q)).symm⟩
  rename_i hpr
  have hx : ∀ j, j < n → q j * p1 = m j * q1 := fun j hj => by
    have := hpr j hj
    rw [e1, e2] at this
    exact Nat.eq_of_mul_eq_mul_left hh (by rw [Nat.mul_left_comm, this, Nat.mul_left_comm])
  have a1 : p1 = 1 := h2 p1 fun j hj => hc.dvd_of_dvd_mul_right ⟨q j, by rw [← hx j hj, Nat.mul_comm]⟩
  have a2 : q1 = 1 := h1 q1 fun j hj => hc.symm.dvd_of_dvd_mul_right ⟨m j, by rw [hx j hj, Nat.mul_comm]⟩
  intro j hj
  have := hx j hj
  rw [a1, a2, Nat.mul_one, Nat.mul_one] at this
  exact this
theorem prop_get {us ds : List Nat} {j : Nat} (h : j < ds.length) : (propL us ds)[j]?.getD 0 = comTo ds ds.length / (ds[j]?.getD 0) * (us[j]?.getD 0) / allTo (nrTo us ds ds.length) ds.length := by
  have e := nrTo_get (us := us) (ds := ds) h
  unfold propL quoTo
  rw [List.take_of_length_le (by rw [nrTo_len]; exact Nat.le_refl _), List.getElem?_map]
  rw [List.getElem?_eq_getElem (by rw [nrTo_len]; exact h)] at e ⊢
  rw [← e]
  rfl
/-- The law's proportion of the fractions of a chord: its numbers. -/
theorem prop_numbers {p : List Int} {inv : Bool} {c : List (List Int)} (hp : Primed p) (hl : ∀ x ∈ c, x.length = p.length) (h0 : 0 < c.length) : propL (c.map (upN inv p)) (c.map (dnN inv p)) = numbersL p inv c := by
  have hln : (c.map (dnN inv p)).length = c.length := List.length_map _
  have gu : ∀ j (hj : j < c.length), (c.map (upN inv p))[j]?.getD 0 = upN inv p c[j] := fun j hj => by rw [List.getElem?_map, List.getElem?_eq_getElem hj]; rfl
  have gd : ∀ j (hj : j < c.length), (c.map (dnN inv p))[j]?.getD 0 = dnN inv p c[j] := fun j hj => by rw [List.getElem?_map, List.getElem?_eq_getElem hj]; rfl
  have gn : ∀ j (hj : j < c.length), (numbersL p inv c)[j]?.getD 0 = numPT p inv c c[j] p.length := fun j hj => by unfold numbersL; rw [List.getElem?_map, List.getElem?_eq_getElem hj]; rfl
  obtain ⟨A, B, hA, hB, hcr⟩ := num_cross (inv := inv) hp hl
  have pos : ∀ j (hj : j < c.length), 0 < upN inv p c[j] ∧ 0 < dnN inv p c[j] := fun j hj => up_pos hp (hl _ (List.getElem_mem hj))
  generalize hus : c.map (upN inv p) = us at *
  generalize hds : c.map (dnN inv p) = ds at *
  have hC := comTo_pos (ds := ds) (fun j hj => by rw [gd j (by omega)]; exact (pos j (by omega)).2) ds.length (Nat.le_refl _)
  have hdv : ∀ j, j < c.length → ds[j]?.getD 0 ∣ comTo ds ds.length := fun j hj => comTo_dvd _ j (by omega)
  have hgn : ∀ j, j < c.length → (nrTo us ds ds.length)[j]?.getD 0 = comTo ds ds.length / (ds[j]?.getD 0) * (us[j]?.getD 0) := fun j hj => nrTo_get (by omega)
  have hAd : ∀ j, j < c.length → allTo (nrTo us ds ds.length) ds.length ∣ (nrTo us ds ds.length)[j]?.getD 0 := fun j hj => allTo_dvd _ j (by omega)
  have hmx : ∀ g, (∀ j, j < c.length → g ∣ (nrTo us ds ds.length)[j]?.getD 0) → g ∣ allTo (nrTo us ds ds.length) ds.length := fun g hg => allTo_max _ fun j hj => hg j (by omega)
  have hpg : ∀ j, j < c.length → (propL us ds)[j]?.getD 0 = (nrTo us ds ds.length)[j]?.getD 0 / allTo (nrTo us ds ds.length) ds.length := fun j hj => by rw [prop_get (by omega), hgn j hj]
  have hnp : ∀ j, j < c.length → 0 < (nrTo us ds ds.length)[j]?.getD 0 := fun j hj => by
    rw [hgn j hj, gd j hj, gu j hj]
    have := hdv j hj
    rw [gd j hj] at this
    exact Nat.mul_pos (Nat.div_pos (Nat.le_of_dvd hC this) (pos j hj).2) (pos j hj).1
  have hpl : (propL us ds).length = c.length := by unfold propL; rw [quoTo_len (by rw [nrTo_len]; exact Nat.le_refl _), hln]
  generalize allTo (nrTo us ds ds.length) ds.length = G at *
  generalize comTo ds ds.length = C at *
  generalize nrTo us ds ds.length = ns at *
  have hG : 0 < G := Nat.pos_of_dvd_of_pos (hAd 0 h0) (hnp 0 h0)
  have hq : ∀ j, j < c.length → (propL us ds)[j]?.getD 0 * G = ns[j]?.getD 0 := fun j hj => by rw [hpg j hj]; exact Nat.div_mul_cancel (hAd j hj)
  have key := prop_eq (n := c.length) (q := fun j => (propL us ds)[j]?.getD 0) (m := fun j => (numbersL p inv c)[j]?.getD 0) (P := G * B) (Q := C * A) (Nat.mul_pos hG hB)
    (fun j hj => by
      show (propL us ds)[j]?.getD 0 * (G * B) = (numbersL p inv c)[j]?.getD 0 * (C * A)
      rw [← Nat.mul_assoc, hq j hj, hgn j hj, gn j hj, gu j hj, gd j hj]
      have hx := hcr _ (List.getElem_mem hj)
      have hd := hdv j hj
      rw [gd j hj] at hd
      have hp2 := (pos j hj).2
      generalize upN inv p c[j] = u at *
      generalize dnN inv p c[j] = d at *
      generalize numPT p inv c c[j] p.length = N at *
      obtain ⟨t, rfl⟩ := hd
      rw [Nat.mul_div_cancel_left t hp2, Nat.mul_assoc, ← hx]
      simp only [Nat.mul_left_comm, Nat.mul_comm])
    (fun g hg => by
      have h3 : g * G ∣ G := hmx _ fun j hj => by rw [← hq j hj]; exact Nat.mul_dvd_mul (hg j hj) (Nat.dvd_refl G)
      obtain ⟨t, ht⟩ := h3
      have h4 : G * 1 = G * (g * t) := by rw [Nat.mul_one]; conv => lhs; rw [ht]
                                          simp only [Nat.mul_left_comm, Nat.mul_comm]
      have h5 := Nat.eq_of_mul_eq_mul_left hG h4
      exact Nat.eq_one_of_mul_eq_one_right h5.symm)
    (fun g hg => num_gcd hp h0 (inv := inv) fun x hx => by
      obtain ⟨j, hj, rfl⟩ := List.getElem_of_mem hx
      rw [← gn j hj]
      exact hg j hj)
  have hnl : (numbersL p inv c).length = c.length := by unfold numbersL; exact List.length_map _
  refine List.ext_getElem (by omega) fun j h1 h2 => ?_
  have := key j (by omega)
  simp only [List.getElem?_eq_getElem h1, List.getElem?_eq_getElem h2, Option.getD_some] at this
  exact this

/-! The text of a chord, read again. -/
theorem rdNum_dec {n : Nat} (h : (decDigits n).length ≤ 9) : rdNum (decDigits n) = some n := by
  have hn := itoa_len_lt (z := (n : Int)) (k := 9) (by rw [itoa_nat]; exact h)
  have := atoi_itoa (n : Int) (by omega) (by omega)
  rw [itoa_nat] at this
  exact rdNum_ok this h (itoa_nat n) (by omega)
theorem rdNum_long {x : List UInt8} (h : 9 < x.length) : rdNum x = none := rdNum_no fun n _ hc => by omega
theorem join_len_le {ws : List (List UInt8)} {b : UInt8} {k : Nat} (h : ∀ x ∈ ws, x.length ≤ k) : (Lib.join ws [b]).length ≤ (k + 1) * ws.length := by
  cases ws with
  | nil => simp [Lib.join_nil]
  | cons x r =>
    have ht : ∀ r : List (List UInt8), (∀ x ∈ r, x.length ≤ k) → (Lib.joinTail [b] r).length ≤ (k + 1) * r.length := by
      intro r
      induction r with
      | nil => intro _; exact Nat.zero_le _
      | cons y r ih =>
        intro h
        have h1 := h y (by simp)
        have h2 := ih fun x hx => h x (by simp [hx])
        unfold Lib.joinTail at h2 ⊢
        rw [List.map_cons, List.flatten_cons, List.length_append, List.length_append, List.length_cons, List.length_cons, List.length_nil, Nat.mul_add]
        omega
    have h1 := h x (by simp)
    have h2 := ht r fun y hy => h y (by simp [hy])
    rw [Lib.join_cons, List.length_append, List.length_cons, Nat.mul_add]
    omega
def shortN (l : List Nat) : Bool := l.all fun n => decide ((decDigits n).length ≤ 9)
theorem dec_colon (n : Nat) : ∀ c ∈ decDigits n, c ≠ 58 := fun c hc e => by
  subst e
  have := dec_dig n 58 hc
  exact absurd this (by decide)
theorem read_text {l : List Nat} (h0 : 0 < l.length) (h12 : l.length ≤ 12) : readL (Lib.join (l.map decDigits) [58]) = if shortN l then some l else none := by
  have hcut : cutAll 58 (Lib.join (l.map decDigits) [58]) = l.map decDigits := cutAll_join 58 _ (fun e => by rw [List.map_eq_nil_iff] at e; subst e; exact absurd h0 (by decide)) fun x hx => by
    obtain ⟨n, _, rfl⟩ := List.mem_map.1 hx
    exact dec_colon n
  unfold readL
  rw [hcut, List.length_map]
  cases hs : shortN l with
  | true =>
    rw [if_pos rfl]
    have hsh : ∀ n ∈ l, (decDigits n).length ≤ 9 := fun n hn => by simpa using List.all_eq_true.1 hs n hn
    have hj := join_len_le (ws := l.map decDigits) (b := 58) (k := 9) fun x hx => by obtain ⟨n, hn, rfl⟩ := List.mem_map.1 hx; exact hsh n hn
    rw [List.length_map] at hj
    rw [if_neg (by omega), if_neg (by omega), rdAll_some fun x hx => by obtain ⟨n, hn, rfl⟩ := List.mem_map.1 hx; exact ⟨n, rdNum_dec (hsh n hn)⟩]
    rw [List.map_map]
    congr 1
    conv => rhs; rw [← List.map_id l]
    refine List.map_congr_left fun n hn => ?_
    show rdVal (decDigits n) = n
    unfold rdVal
    rw [rdNum_dec (hsh n hn)]
    rfl
  | false =>
    rw [show (if (false : Bool) = true then some l else Option.none) = Option.none from rfl]
    split
    · rfl
    · rw [if_neg (by omega)]
      obtain ⟨n, hn, hlong⟩ : ∃ n ∈ l, ¬ (decDigits n).length ≤ 9 := by
        have := List.all_eq_false.1 hs
        obtain ⟨n, hn, h⟩ := this
        exact ⟨n, hn, by simpa using h⟩
      exact rdAll_none (List.mem_map.2 ⟨n, hn, rfl⟩) (rdNum_long (by omega))
section
variable {p : List Int} {c : List (List Int)}
theorem numPT_pos (hp : Primed p) {inv : Bool} (x : List Int) : 0 < numPT p inv c x p.length := by
  rw [numPT_pp]
  exact pp_pos p _ (fun k hk => (hp.pr k hk).1) 0 _ (by omega)
theorem num_lt (hp : Primed p) (hl : ∀ x ∈ c, x.length = p.length) {x y : List Int} (hx : x ∈ c) (hy : y ∈ c) (h : ltR p x y = true) : numPT p false c x p.length < numPT p false c y p.length := by
  obtain ⟨A, B, hA, hB, hcr⟩ := num_cross (inv := false) hp hl
  have e1 := hcr x hx
  have e2 := hcr y hy
  have h2 := of_decide_eq_true h
  have dx := den_pos hp (hl x hx)
  have dy := den_pos hp (hl y hy)
  simp only [upN, dnN, if_false, Bool.false_eq_true] at e1 e2
  generalize numPT p false c x p.length = N at *
  generalize numPT p false c y p.length = M at *
  generalize num p x = u at *
  generalize num p y = v at *
  generalize den p x = a at *
  generalize den p y = b at *
  have h3 : u * b * B < v * a * B := Nat.mul_lt_mul_of_pos_right h2 hB
  have h4 : u * b * B = N * (a * b * A) := by
    have : u * b * B = u * B * b := by simp only [Nat.mul_left_comm, Nat.mul_comm]
    rw [this, ← e1]; simp only [Nat.mul_left_comm, Nat.mul_comm]
  have h5 : v * a * B = M * (a * b * A) := by
    have : v * a * B = v * B * a := by simp only [Nat.mul_left_comm, Nat.mul_comm]
    rw [this, ← e2]; simp only [Nat.mul_left_comm, Nat.mul_comm]
  rw [h4, h5] at h3
  exact Nat.lt_of_mul_lt_mul_right h3
/-- The fraction of two numbers is that of the notes' difference. -/
theorem num_quot (hp : Primed p) (hl : ∀ x ∈ c, x.length = p.length) {x r : List Int} (hx : x ∈ c) (hr : r ∈ c) :
    numPT p false c x p.length / Nat.gcd (numPT p false c x p.length) (numPT p false c r p.length) = num p (difI x r) ∧ numPT p false c r p.length / Nat.gcd (numPT p false c x p.length) (numPT p false c r p.length) = den p (difI x r) := by
  have hd : (difI x r).length = p.length := by rw [difI_len]; exact hl x hx
  have hcp := num_den_cop hp hd
  have e : numPT p false c x p.length * den p (difI x r) = numPT p false c r p.length * num p (difI x r) := by
    rw [numPT_pp, numPT_pp, num_pp hd, den_pp hd, ← pp_add, ← pp_add]
    refine pp_congr p 0 _ fun i _ hi => ?_
    have e1 := extX_same (inv := false) hx hr i
    have e2 := (extX_no hx i).1 x hx
    have e3 := (extX_no hx i).1 r hr
    have e4 := dif_at (x := x) (y := r) (t := i) (by have := hl x hx; omega)
    unfold upE downE
    rw [← e1, e4]
    omega
  have dp := den_pos hp hd
  have np := num_pos hp hd
  have xp := numPT_pos (c := c) hp (inv := false) x
  generalize num p (difI x r) = u at *
  generalize den p (difI x r) = d at *
  generalize numPT p false c x p.length = N at *
  generalize numPT p false c r p.length = M at *
  obtain ⟨t, rfl⟩ : u ∣ N := Nat.Coprime.dvd_of_dvd_mul_right hcp ⟨M, by rw [e, Nat.mul_comm]⟩
  have hM : M = d * t := by
    have : u * M = u * (d * t) := by rw [Nat.mul_comm u M, ← e, Nat.mul_assoc, Nat.mul_comm t d]
    exact Nat.eq_of_mul_eq_mul_left np this
  subst hM
  have ht : 0 < t := Nat.pos_of_ne_zero fun h0 => by rw [h0, Nat.mul_zero] at xp; omega
  have hg : Nat.gcd (u * t) (d * t) = t := by rw [Nat.gcd_mul_right, hcp, Nat.one_mul]
  rw [hg, Nat.mul_div_cancel _ ht, Nat.mul_div_cancel _ ht]
  exact ⟨rfl, rfl⟩
theorem numbers_ord (hp : Primed p) (hl : ∀ x ∈ c, x.length = p.length) (hs : SLt p c) : ∀ k, k ≤ c.length → ordE (numbersL p false c) k = 0
  | 0, _ => rfl
  | k + 1, hk => by
    have ih := numbers_ord hp hl hs k (by omega)
    have g : ∀ j (hj : j < c.length), (numbersL p false c)[j]?.getD 0 = numPT p false c c[j] p.length := fun j hj => by unfold numbersL; rw [List.getElem?_map, List.getElem?_eq_getElem hj]; rfl
    refine ordE_next ih ?_ ?_
    · rw [g k hk]; have := numPT_pos (c := c) hp (inv := false) c[k]; omega
    · rintro ⟨h0, h1⟩
      rw [g k hk, g (k - 1) (by omega)] at h1
      have := num_lt hp hl (List.getElem_mem (show k - 1 < c.length by omega)) (List.getElem_mem hk) ((List.pairwise_iff_getElem.1 hs) (k - 1) k (by omega) hk (by omega))
      omega
/-- The text of the numbers is read as the rooted chord. -/
theorem text_parse (hpe : primeErr p = 0) (hl : ∀ x ∈ c, x.length = p.length) (hs : SLt p c) (h0 : 0 < c.length) (h12 : c.length ≤ 12) :
    (parErr p (Lib.join ((numbersL p false c).map decDigits) [58]) = if shortN (numbersL p false c) then 0 else 15) ∧ parRows p (Lib.join ((numbersL p false c).map decDigits) [58]) = if shortN (numbersL p false c) then rootL c (c[0]?.getD []) else [] := by
  have hp := primed hpe
  have hln : (numbersL p false c).length = c.length := by unfold numbersL; exact List.length_map _
  have hrd := read_text (l := numbersL p false c) (by omega) (by omega)
  have hm : c[0]?.getD [] ∈ c := by rw [List.getElem?_eq_getElem h0]; exact List.getElem_mem h0
  have g0 : (numbersL p false c)[0]?.getD 0 = numPT p false c (c[0]?.getD []) p.length := by unfold numbersL; rw [List.getElem?_map, List.getElem?_eq_getElem h0]; rfl
  unfold parErr parRows
  rw [if_neg (by rw [hpe]; decide), hrd]
  cases hsn : shortN (numbersL p false c) with
  | false => exact ⟨rfl, rfl⟩
  | true =>
    simp only [if_true]
    constructor
    · unfold parL
      rw [hln, numbers_ord hp hl hs _ (Nat.le_refl _), if_neg (by decide), if_pos]
      refine List.all_eq_true.2 fun n hn => ?_
      obtain ⟨x, hx, rfl⟩ := List.mem_map.1 hn
      obtain ⟨q1, q2⟩ := num_quot hp hl hx hm
      obtain ⟨r1, r2, _⟩ := of_num_den hp (x := difI x (c[0]?.getD [])) (by rw [difI_len]; exact hl x hx)
      unfold facB smB
      rw [g0, q1, q2, r1, r2]
      rfl
    · unfold facL
      rw [hln, List.take_of_length_le (by omega), g0]
      unfold numbersL rootL
      rw [List.map_map]
      refine List.map_congr_left fun x hx => ?_
      obtain ⟨q1, q2⟩ := num_quot hp hl hx hm
      obtain ⟨_, _, r3⟩ := of_num_den hp (x := difI x (c[0]?.getD [])) (by rw [difI_len]; exact hl x hx)
      show facR p _ _ = _
      unfold facR
      rw [q1, q2, r3]
end

end Go.Proofs.YtaiglcbgllnciaaGreatDoor

namespace Go.Proofs.YtaiglcbgllnciaaGreatDoor
open Go.RowKit Go.Lib

/-- A number of at most 400 digits. -/
def Sm4 (n : Nat) : Prop := ∃ k, k ≤ 400 ∧ 0 < k ∧ n < 10 ^ k
theorem sm4_dec {n : Nat} (h : Sm4 n) : (decDigits n).length ≤ 400 := by
  obtain ⟨k, hk, h0, h⟩ := h
  rw [dec_length]
  exact Nat.le_trans (nDigits_le h0 h) hk
theorem sm4_pcs {n : Nat} (h : Sm4 n) : (pcs n).length ≤ 400 := by
  obtain ⟨k, hk, _, h⟩ := h
  refine Nat.le_trans (pcs_len_le k n (Nat.lt_of_lt_of_le h ?_)) hk
  exact Nat.pow_le_pow_left (by omega) k
theorem sm4_le {m n : Nat} (h : Sm4 n) (hm : m ≤ n) : Sm4 m := by
  obtain ⟨k, hk, h0, h⟩ := h
  exact ⟨k, hk, h0, Nat.lt_of_le_of_lt hm h⟩
theorem sm4_pow {n k : Nat} (h : n ≤ 10 ^ k) (hk : k < 400) : Sm4 n := ⟨k + 1, by omega, by omega, Nat.lt_of_le_of_lt h (Nat.pow_lt_pow_right (by omega) (by omega))⟩
theorem sm4_one : Sm4 1 := sm4_pow (k := 0) (Nat.le_refl _) (by omega)
theorem sm4_zero : Sm4 0 := sm4_pow (k := 0) (by omega) (by omega)

/-- What the law's proportion is given: fractions of small numbers. -/
structure PropIn (us ds : List Nat) : Prop where
  len : us.length = ds.length
  le : ds.length ≤ 6
  up : ∀ j, j < ds.length → 0 < us[j]?.getD 0 ∧ us[j]?.getD 0 ≤ 10 ^ 36
  dn : ∀ j, j < ds.length → 0 < ds[j]?.getD 0 ∧ ds[j]?.getD 0 ≤ 10 ^ 36
section
variable {us ds : List Nat}
theorem com_pow (h : PropIn us ds) : ∀ k, k ≤ ds.length → comTo ds k ≤ 10 ^ (36 * k)
  | 0, _ => Nat.le_refl _
  | k + 1, hk => by
    have ih := com_pow h k (by omega)
    have h2 := (h.dn k hk).2
    rw [comTo, show 36 * (k + 1) = 36 + 36 * k by omega, Nat.pow_add]
    exact Nat.mul_le_mul (Nat.le_trans (Nat.div_le_self _ _) h2) ih
theorem PropIn.com (h : PropIn us ds) {k : Nat} (hk : k ≤ ds.length) : Sm4 (comTo ds k) ∧ 0 < comTo ds k :=
  ⟨sm4_pow (com_pow h k hk) (by have := h.le; omega), comTo_pos (fun j hj => (h.dn j hj).1) k hk⟩
theorem PropIn.den (h : PropIn us ds) {k : Nat} (hk : k < ds.length) : Sm4 (ds[k]?.getD 0) ∧ 0 < ds[k]?.getD 0 := ⟨sm4_pow (h.dn k hk).2 (by omega), (h.dn k hk).1⟩
theorem PropIn.num (h : PropIn us ds) {k : Nat} (hk : k < ds.length) : Sm4 (us[k]?.getD 0) ∧ 0 < us[k]?.getD 0 := ⟨sm4_pow (h.up k hk).2 (by omega), (h.up k hk).1⟩
/-- One of the law's numbers. -/
def nrAt (us ds : List Nat) (k : Nat) : Nat := comTo ds ds.length / (ds[k]?.getD 0) * (us[k]?.getD 0)
theorem PropIn.nr (h : PropIn us ds) {k : Nat} (hk : k < ds.length) : Sm4 (nrAt us ds k) ∧ 0 < nrAt us ds k := by
  have h1 := com_pow h ds.length (Nat.le_refl _)
  have h2 := (h.up k hk).2
  have h3 := h.le
  have hc := (h.com (Nat.le_refl _)).2
  have hd := comTo_dvd (ds := ds) ds.length k hk
  refine ⟨sm4_pow (k := 36 * ds.length + 36) ?_ (by omega), ?_⟩
  · unfold nrAt
    rw [Nat.pow_add]
    exact Nat.mul_le_mul (Nat.le_trans (Nat.div_le_self _ _) h1) h2
  · exact Nat.mul_pos (Nat.div_pos (Nat.le_of_dvd hc hd) (h.dn k hk).1) (h.up k hk).1
/-- The divisor of all numbers, up to a place. -/
def gTo (us ds : List Nat) : Nat → Nat
  | 0 => 0
  | k + 1 => Nat.gcd (gTo us ds k) (nrAt us ds k)
theorem gTo_all (us ds : List Nat) (n : Nat) : ∀ k, k ≤ n → gTo us ds k = allTo (nrTo us ds n) k
  | 0, _ => rfl
  | k + 1, hk => by rw [gTo, allTo, gTo_all us ds n k (by omega), nrTo_get (show k < n by omega)]; rfl
theorem PropIn.all (h : PropIn us ds) : ∀ k, k ≤ ds.length → Sm4 (gTo us ds k) ∧ (0 < k → 0 < gTo us ds k)
  | 0, _ => ⟨sm4_zero, fun h => absurd h (by omega)⟩
  | k + 1, hk => by
    have hn := h.nr (k := k) hk
    rw [gTo]
    exact ⟨sm4_le hn.1 (Nat.gcd_le_right _ hn.2), fun _ => Nat.gcd_pos_of_pos_right _ hn.2⟩
/-- The law's proportion, one by one. -/
def outTo (us ds : List Nat) (k : Nat) : List Nat := (List.range k).map fun j => nrAt us ds j / gTo us ds ds.length
theorem outTo_len (us ds : List Nat) (k : Nat) : (outTo us ds k).length = k := by unfold outTo; rw [List.length_map, List.length_range]
theorem outTo_next (us ds : List Nat) (k : Nat) : outTo us ds (k + 1) = outTo us ds k ++ [nrAt us ds k / gTo us ds ds.length] := by
  unfold outTo
  rw [List.range_succ, List.map_append]
  rfl
theorem outTo_all (us ds : List Nat) : outTo us ds ds.length = propL us ds := by
  unfold propL outTo quoTo
  rw [List.take_of_length_le (by rw [nrTo_len]; exact Nat.le_refl _), ← gTo_all us ds ds.length ds.length (Nat.le_refl _)]
  unfold nrTo
  rw [List.map_map]
  rfl
theorem PropIn.out (h : PropIn us ds) {k : Nat} (hk : k < ds.length) : Sm4 (nrAt us ds k / gTo us ds ds.length) := sm4_le (h.nr hk).1 (Nat.div_le_self _ _)
end

/-- The fractions of the notes of a small chord are small. -/
theorem up_le {p x : List Int} {inv : Bool} (hp : Primed p) (h3 : p.length ≤ 3) (hx : x.length = p.length) (h6 : ∀ t : Nat, (x[t]?.getD 0).natAbs ≤ 6) : upN inv p x ≤ 10 ^ 36 ∧ dnN inv p x ≤ 10 ^ 36 := by
  have key : ∀ f : Nat → Nat, (∀ i, f i ≤ 6) → pp p f 0 p.length ≤ 10 ^ 36 := fun f hf => by
    refine Nat.le_trans (pp_le hp f hf p.length (Nat.le_refl _)) ?_
    rw [show (100 : Nat) = 10 ^ 2 from rfl, ← Nat.pow_mul]
    exact Nat.pow_le_pow_right (by omega) (by omega)
  have h1 : num p x ≤ 10 ^ 36 := by rw [num_pp hx]; exact key _ fun i => by have := h6 i; unfold upE; omega
  have h2 : den p x ≤ 10 ^ 36 := by rw [den_pp hx]; exact key _ fun i => by have := h6 i; unfold downE; omega
  unfold upN dnN
  cases inv
  · exact ⟨h1, h2⟩
  · exact ⟨h2, h1⟩
theorem map_getD {α : Type} {c : List α} {f : α → Nat} {j : Nat} (hj : j < c.length) : (c.map f)[j]?.getD 0 = f c[j] := by rw [List.getElem?_map, List.getElem?_eq_getElem hj]; rfl
theorem prop_in {p : List Int} {c : List (List Int)} (inv : Bool) (hp : Primed p) (h3 : p.length ≤ 3) (hb : BaseC p c) (h6 : c.length ≤ 6) : PropIn (c.map (upN inv p)) (c.map (dnN inv p)) := by
  have hl : (c.map (dnN inv p)).length = c.length := List.length_map _
  refine ⟨by rw [hl]; exact List.length_map _, by omega, fun j hj => ?_, fun j hj => ?_⟩
  · rw [hl] at hj
    rw [map_getD hj]
    have hm := List.getElem_mem hj
    exact ⟨(up_pos hp (hb.len _ hm)).1, (up_le hp h3 (hb.len _ hm) (hb.sm _ hm)).1⟩
  · rw [hl] at hj
    rw [map_getD hj]
    have hm := List.getElem_mem hj
    exact ⟨(up_pos hp (hb.len _ hm)).2, (up_le hp h3 (hb.len _ hm) (hb.sm _ hm)).2⟩
end Go.Proofs.YtaiglcbgllnciaaGreatDoor

namespace Go.Proofs.YtaiglcbgllnciaaGreatDoor
open Go.RowKit Go.Lib

/-! Lists of pairs of cells. -/
def fl2 : List (Value × Value) → List Value
  | [] => []
  | t :: l => t.1 :: t.2 :: fl2 l
theorem fl2_app : ∀ l m, fl2 (l ++ m) = fl2 l ++ fl2 m
  | [], _ => rfl
  | t :: l, m => by rw [List.cons_append, fl2, fl2_app l m, fl2]; rfl
theorem fl2_get : ∀ (l : List (Value × Value)) (k : Nat) (t : Value × Value), l[k]? = some t → (fl2 l)[k * 2]? = some t.1 ∧ (fl2 l)[k * 2 + 1]? = some t.2
  | [], k, t, h => by simp at h
  | s :: l, 0, t, h => by simp at h; subst h; exact ⟨rfl, rfl⟩
  | s :: l, k + 1, t, h => by
    obtain ⟨h1, h2⟩ := fl2_get l k t (by simpa using h)
    rw [show (k + 1) * 2 = k * 2 + 2 by omega]
    exact ⟨h1, h2⟩
/-- A list of pairs of cells to be read. -/
def PairAt (w : World) (A : Option Addr) (l : List (Value × Value)) : Prop := ∀ (k : Nat) (t : Value × Value), l[k]? = some t → ∃ b o, A = some ⟨b, o, Option.none⟩ ∧ b < w.heap.size ∧ w.cell? ⟨b, o + k * 2, Option.none⟩ = some t.1 ∧ w.cell? ⟨b, o + k * 2 + 1, Option.none⟩ = some t.2
theorem PairAt.lift {w w' : World} {A : Option Addr} {l : List (Value × Value)} (h : PairAt w A l) (hb : Below w.heap.size w w') : PairAt w' A l := fun k x hx => by
  obtain ⟨b, o, e, h1, h2, h3⟩ := h k x hx
  exact ⟨b, o, e, Nat.lt_of_lt_of_le h1 hb.size, (hb.cell (p := ⟨b, o + k * 2, Option.none⟩) h1).trans h2, (hb.cell (p := ⟨b, o + k * 2 + 1, Option.none⟩) h1).trans h3⟩
theorem PairAt.of_own {w : World} {base : Nat} {e : TypeId} {v : Value} {l : List (Value × Value)} (h : w.ownsRow base e 2 v l.length (fl2 l)) : ∃ A c, v = .slice A l.length c ∧ PairAt w A l := by
  rcases h.2 with ⟨rfl, h0⟩ | ⟨g, cap, cur, rfl, _, hg, hc1, hc2, hc3, hc4⟩
  · refine ⟨Option.none, 0, by rw [h0], fun k x hx => ?_⟩
    have := (List.getElem?_eq_some_iff.1 hx).1
    omega
  · refine ⟨_, _, rfl, fun k x hx => ?_⟩
    obtain ⟨t0, t1⟩ := fl2_get l k _ hx
    have hlt : g < w.heap.size := (Array.getElem?_eq_some_iff.1 hg).1
    have cell : ∀ (i : Nat) (z : Value), (fl2 l)[i]? = some z → w.cell? ⟨g, 0 + i, Option.none⟩ = some z := fun i z hz => by
      rw [← hc4, List.getElem?_take] at hz
      split at hz
      · rw [Nat.zero_add]
        unfold World.cell?
        simp only [hg]
        simpa using hz
      · cases hz
    exact ⟨g, 0, rfl, hlt, cell _ _ t0, cell _ _ t1⟩

/-! Fractions. -/
def ratC (t : List UInt8 × List UInt8) : Value × Value := (.string ⟨t.1.toArray⟩, .string ⟨t.2.toArray⟩)
/-- A growing list of fractions of its own. -/
def ROwn (w : World) (base : Nat) (v : Value) (l : List (List UInt8 × List UInt8)) : Prop := w.ownsRow base 63 2 v l.length (fl2 (l.map ratC))
theorem ROwn.nil (w : World) (base : Nat) : ROwn w base (.slice Option.none 0 0) [] := World.ownsRow_nil _ _ _ _
theorem ROwn.below {w w' : World} {base : Nat} {v : Value} {l : List (List UInt8 × List UInt8)} (h : ROwn w base v l) (hb : Below w.heap.size w w') : ROwn w' base v l := own_below h hb
theorem ROwn.shape {w : World} {base : Nat} {v : Value} {l : List (List UInt8 × List UInt8)} (h : ROwn w base v l) : ∃ A c, v = .slice A l.length c ∧ PairAt w A (l.map ratC) := by
  have h2 : w.ownsRow base 63 2 v (l.map ratC).length (fl2 (l.map ratC)) := by rw [List.length_map]; exact h
  obtain ⟨A, c, h3, h4⟩ := PairAt.of_own h2
  rw [List.length_map] at h3
  exact ⟨A, c, h3, h4⟩
theorem rat_snoc (l : List (List UInt8 × List UInt8)) (t : List UInt8 × List UInt8) : fl2 ((l ++ [t]).map ratC) = fl2 (l.map ratC) ++ [.string ⟨t.1.toArray⟩, .string ⟨t.2.toArray⟩] := by rw [List.map_append, fl2_app]; rfl
theorem Tryz.info_rational : (Tryz.prog.info? 63).map (fun i => (i.zero, i.size, i.bytes)) = some (some (.agg #[.string ⟨#[]⟩, .string ⟨#[]⟩]), 2, 32) := by kernel_rfl
/-- The fractions of two lists of numbers. -/
def ratsOf (us ds : List Nat) : List (List UInt8 × List UInt8) := (List.range ds.length).map fun j => (decDigits (us[j]?.getD 0), decDigits (ds[j]?.getD 0))
theorem ratsOf_len (us ds : List Nat) : (ratsOf us ds).length = ds.length := by unfold ratsOf; rw [List.length_map, List.length_range]
theorem ratsOf_get {us ds : List Nat} {k : Nat} (h : k < ds.length) : (ratsOf us ds)[k]? = some (decDigits (us[k]?.getD 0), decDigits (ds[k]?.getD 0)) := by
  unfold ratsOf
  rw [List.getElem?_map, List.getElem?_range h]
  rfl

/-! Numbers of schismaref03. -/
/-- A growing list of numbers of its own. -/
def WOwn (w : World) (base : Nat) (v : Value) (ns : List Nat) : Prop :=
  ∃ us : List Value, us.length = ns.length ∧ w.ownsRow base 93 2 v ns.length (fl2 (us.map fun u => (.bool false, u))) ∧ ∀ (j n : Nat), ns[j]? = some n → ∃ u, us[j]? = some u ∧ TRow w u (pcsI n)
theorem WOwn.nil (w : World) (base : Nat) : WOwn w base (.slice Option.none 0 0) [] := ⟨[], rfl, World.ownsRow_nil _ _ _ _, fun j n h => by simp at h⟩
theorem WOwn.below {w w' : World} {base : Nat} {v : Value} {ns : List Nat} (h : WOwn w base v ns) (hb : Below w.heap.size w w') : WOwn w' base v ns := by
  obtain ⟨us, h0, h1, h2⟩ := h
  exact ⟨us, h0, own_below h1 hb, fun j n hj => by obtain ⟨u, h3, h4⟩ := h2 j n hj; exact ⟨u, h3, h4.below hb⟩⟩
/-- A list of numbers to be read. -/
def WAt (w : World) (A : Option Addr) (ns : List Nat) : Prop := ∀ (k n : Nat), ns[k]? = some n → ∃ b o u, A = some ⟨b, o, Option.none⟩ ∧ b < w.heap.size ∧ w.cell? ⟨b, o + k * 2, Option.none⟩ = some (.bool false) ∧ w.cell? ⟨b, o + k * 2 + 1, Option.none⟩ = some u ∧ TRow w u (pcsI n)
theorem WAt.lift {w w' : World} {A : Option Addr} {ns : List Nat} (h : WAt w A ns) (hb : Below w.heap.size w w') : WAt w' A ns := fun k x hx => by
  obtain ⟨b, o, u, e, h1, h2, h3, h4⟩ := h k x hx
  exact ⟨b, o, u, e, Nat.lt_of_lt_of_le h1 hb.size, (hb.cell (p := ⟨b, o + k * 2, Option.none⟩) h1).trans h2, (hb.cell (p := ⟨b, o + k * 2 + 1, Option.none⟩) h1).trans h3, h4.below hb⟩
theorem WOwn.shape {w : World} {base : Nat} {v : Value} {ns : List Nat} (h : WOwn w base v ns) : ∃ A c, v = .slice A ns.length c ∧ WAt w A ns := by
  obtain ⟨us, h0, h1, h2⟩ := h
  have h3 : w.ownsRow base 93 2 v (us.map fun u => ((.bool false : Value), u)).length (fl2 (us.map fun u => (.bool false, u))) := by rw [List.length_map, h0]; exact h1
  obtain ⟨A, c, h4, h5⟩ := PairAt.of_own h3
  rw [List.length_map, h0] at h4
  refine ⟨A, c, h4, fun k n hk => ?_⟩
  obtain ⟨u, h6, h7⟩ := h2 k n hk
  obtain ⟨b, o, e, h8, h9, h10⟩ := h5 k (.bool false, u) (by rw [List.getElem?_map, h6]; rfl)
  exact ⟨b, o, u, e, h8, h9, h10, h7⟩
theorem WOwn.snoc {w w' : World} {base : Nat} {v v' u : Value} {ns : List Nat} {n : Nat} {us : List Value} (h0 : us.length = ns.length) (h1 : w.ownsRow base 93 2 v ns.length (fl2 (us.map fun u => (.bool false, u)))) (h2 : ∀ (j n : Nat), ns[j]? = some n → ∃ u, us[j]? = some u ∧ TRow w u (pcsI n)) (hx : TRow w u (pcsI n))
    (hown : w'.ownsRow base 93 2 v' (ns.length + 1) (fl2 (us.map fun u => (.bool false, u)) ++ [.bool false, u])) (hg : w.grownBy w' v.ownBlock) : WOwn w' base v' (ns ++ [n]) := by
  refine ⟨us ++ [u], by rw [List.length_append, List.length_append, h0]; rfl, ?_, fun j y hj => ?_⟩
  · rw [List.length_append, List.map_append, fl2_app]
    exact hown
  · by_cases hjl : j < ns.length
    · rw [List.getElem?_append_left hjl] at hj
      obtain ⟨u2, h3, h4⟩ := h2 j y hj
      exact ⟨u2, by rw [List.getElem?_append_left (by omega)]; exact h3, h4.grown h1 hg (by decide)⟩
    · rw [List.getElem?_append_right (by omega)] at hj
      have hj0 : j - ns.length = 0 := by
        obtain ⟨hlt, _⟩ := List.getElem?_eq_some_iff.1 hj
        simpa using hlt
      rw [hj0] at hj
      cases hj
      exact ⟨u, by rw [List.getElem?_append_right (by omega), h0, hj0]; rfl, hx.grown h1 hg (by decide)⟩
theorem Tryz.info_whole : (Tryz.prog.info? 93).map (fun i => (i.zero, i.size, i.bytes)) = some (some (.agg #[.bool false, .slice Option.none 0 0]), 2, 32) := by kernel_rfl

end Go.Proofs.YtaiglcbgllnciaaGreatDoor

namespace Go.Proofs.YtaiglcbgllnciaaGreatDoor
open Go.RowKit Go.Lib

theorem to03_dec (d : Nat) (w : World) (hl : (decDigits d).length ≤ 400) :
    Calls Tryz.prog 57 #[.string ⟨(decDigits d).toArray⟩] w fun e w' => (∃ A c, e = .returned (.agg #[.bool false, .slice A (pcs d).length c]) ∧ TRow w' (.slice A (pcs d).length c) (pcsI d)) ∧ Below w.heap.size w w' := by
  have h := to03_any (d : Int) w (by rw [itoa_nat]; omega)
  rw [itoa_nat, Int.natAbs_natCast, pcsI_len, show decide ((d : Int) < 0) = false from decide_eq_false (by omega)] at h
  exact h
theorem of03_dec (n : Nat) (w : World) (hS : Std w) (hn : n ≤ 1) :
    Calls Tryz.prog 55 #[.int .i64 n] w fun e w' => (∃ A c k, e = .returned (.agg #[.bool false, .slice A k c]) ∧ (pcs n).length = k ∧ TRow w' (.slice A k c) (pcsI n)) ∧ Below w.heap.size w w' := by
  have h := of03_any (n : Int) w hS (by omega) (by omega) (by rw [itoa_nat]; have := sm4_dec (sm4_le sm4_one hn); omega)
  rw [Int.natAbs_natCast, pcsI_len, show decide ((n : Int) < 0) = false from decide_eq_false (by omega)] at h
  refine h.mono ?_
  rintro e w' ⟨⟨A, c, he, ht⟩, hb⟩
  exact ⟨⟨A, c, _, he, rfl, ht⟩, hb⟩
/-- A number of schismaref03 in a block. -/
def WB (w : World) (g n : Nat) : Prop := ∃ A c, Cells w g 93 [.bool false, .slice A (pcs n).length c] ∧ TRow w (.slice A (pcs n).length c) (pcsI n)
theorem WB.below {w w' : World} {g n : Nat} (h : WB w g n) (hb : Below w.heap.size w w') : WB w' g n := by
  obtain ⟨A, c, h1, h2⟩ := h
  exact ⟨A, c, h1.below hb h1.lt, h2.below hb⟩
theorem WB.lt {w : World} {g n : Nat} (h : WB w g n) : g < w.heap.size := by
  obtain ⟨A, c, h1, h2⟩ := h
  exact h1.lt
theorem WB.st {w : World} {g m n : Nat} {A : Option Addr} {c : Nat} {X Y : Value} (h : Cells w g 93 [X, Y]) (hn : (pcs n).length = m) (ht : TRow w (.slice A m c) (pcsI n)) : WB (st2 w g (.bool false) (.slice A m c)) g n := by
  subst hn
  exact ⟨A, c, st2_same h, st2_row ht h (by decide)⟩
theorem WB.st_far {w : World} {g g' n : Nat} {a b X Y : Value} (hne : g' ≠ g) (hc : Cells w g 93 [X, Y]) (h : WB w g' n) : WB (st2 w g a b) g' n := by
  obtain ⟨A, c, h1, h2⟩ := h
  exact ⟨A, c, st2_far hne h1, st2_row h2 hc (by decide)⟩
theorem WB.new {w : World} {m n : Nat} {A : Option Addr} {c : Nat} (hn : (pcs n).length = m) (ht : TRow w (.slice A m c) (pcsI n)) : WB (w.alloc (.cells #[.bool false, .slice A m c] 93)) w.heap.size n := by
  subst hn
  exact ⟨A, c, Cells.new w _ _, ht.below ((Below.refl _ _).alloc (Nat.le_refl _) _)⟩

theorem Cells.new1 (w : World) (O : Obj) (e : TypeId) (cs : Array Value) : Cells ((w.alloc O).alloc (.cells cs e)) (w.heap.size + 1) e cs.toList := by
  have h := Cells.new (w.alloc O) e cs
  rw [World.size_alloc] at h
  exact h
theorem WB.new1 {w : World} {O : Obj} {m n : Nat} {A : Option Addr} {c : Nat} (hn : (pcs n).length = m) (ht : TRow w (.slice A m c) (pcsI n)) : WB ((w.alloc O).alloc (.cells #[.bool false, .slice A m c] 93)) (w.heap.size + 1) n := by
  have h := WB.new hn (ht.below ((Below.refl w.heap.size w).alloc (Nat.le_refl _) O))
  rw [World.size_alloc] at h
  exact h
theorem st2_size (w : World) (g : Nat) (a b : Value) : (st2 w g a b).heap.size = w.heap.size := by simp [st2]
theorem WB.new_st {w : World} {g m n : Nat} {A : Option Addr} {c : Nat} {X Y a b : Value} (hc : Cells w g 93 [X, Y]) (hn : (pcs n).length = m) (ht : TRow w (.slice A m c) (pcsI n)) : WB ((st2 w g a b).alloc (.cells #[.bool false, .slice A m c] 93)) w.heap.size n := by
  have h := WB.new (w := st2 w g a b) hn (st2_row ht hc (by decide))
  rw [st2_size] at h
  exact h

/-- The law's numbers, one by one. -/
def nrL (us ds : List Nat) (k : Nat) : List Nat := (List.range k).map fun j => nrAt us ds j
theorem nrL_len (us ds : List Nat) (k : Nat) : (nrL us ds k).length = k := by unfold nrL; rw [List.length_map, List.length_range]
theorem nrL_next (us ds : List Nat) (k : Nat) : nrL us ds (k + 1) = nrL us ds k ++ [nrAt us ds k] := by
  unfold nrL
  rw [List.range_succ, List.map_append]
  rfl
theorem nrL_get {us ds : List Nat} {j k : Nat} (h : j < k) : (nrL us ds k)[j]? = some (nrAt us ds j) := by
  unfold nrL
  rw [List.getElem?_map, List.getElem?_range h]
  rfl
theorem WOwn.st {w : World} {base g : Nat} {v a b X Y : Value} {ns : List Nat} (h : WOwn w base v ns) (hg : g < base) (hc : Cells w g 93 [X, Y]) : WOwn (st2 w g a b) base v ns := by
  obtain ⟨us, h0, h1, h2⟩ := h
  exact ⟨us, h0, ownsRow_setCell_below (a := ⟨g, 1, Option.none⟩) (ownsRow_setCell_below (a := ⟨g, 0, Option.none⟩) h1 hg a) hg b, fun j n hj => by obtain ⟨u, h3, h4⟩ := h2 j n hj; exact ⟨u, h3, st2_row h4 hc (by decide)⟩⟩
theorem WB.grown {w w' : World} {g n base k : Nat} {v : Value} {xs : List Value} (h : WB w g n) (ho : w.ownsRow base 93 2 v k xs) (hg : w.grownBy w' v.ownBlock) (hne : v.ownBlock ≠ some g) : WB w' g n := by
  obtain ⟨A, c, h1, h2⟩ := h
  refine ⟨A, c, ?_, h2.grown ho hg (by decide)⟩
  exact (hg.block g h1.lt (fun e => hne e.symm)).trans h1

set_option maxRecDepth 100000 in
set_option maxHeartbeats 8000000 in
theorem prop39_any (A : Option Addr) (c : Nat) (us ds : List Nat) (w : World) (hS : Std w) (hl : PairAt w A ((ratsOf us ds).map ratC)) (hin : PropIn us ds) :
    Calls Tryz.prog 28 #[.slice A ds.length c] w fun e w' => (∃ v, e = .returned v ∧ TxtsAt w' w.heap.size v (propL us ds)) ∧ Below w.heap.size w w' := by
  have HL := Lib.hid hl
  have HIN : Box (PropIn us ds) := ⟨hin⟩
  have HS := Lib.hid hS
  have HO1 := Lib.hid (fun (W : World) (hW : Std W) => of03_dec 1 W hW (by omega))
  have HO0 := Lib.hid (fun (W : World) (hW : Std W) => of03_dec 0 W hW (by omega))
  clear hl hin hS
  go_enter Tryz.func28, Tryz.ntmps28
  go_wp2_with fail
  refine (HO1.out _ HS.out).mono ?_
  rintro e w1 ⟨⟨A1, c1, n1, rfl, hn1, ht1⟩, hb1⟩
  have HC1 := Lib.hid (WB.new hn1 ht1)
  have HB1 := Lib.hid (hb1.alloc hb1.size (.cells #[.bool false, .slice A1 n1 c1] 93))
  have HG1 := Lib.hid hb1.size
  clear hb1 hn1 ht1 HO1
  have hn6 := HIN.out.le
  go_wp2_with fail
  go_loopw [24] (fun i wr => ∃ k : Nat, k ≤ ds.length ∧ i = .int .i64 k ∧ WB wr w1.heap.size (comTo ds k) ∧ Below w.heap.size w wr) (fun i _ => ds.length - (intOf i).toNat)
  case atStart => exact ⟨0, Nat.zero_le _, rfl, HC1.out, HB1.out⟩
  case round =>
    clear HC1 HB1
    obtain ⟨k, hk, rfl, hwb, hbw⟩ := hrel
    by_cases hlt : k < ds.length
    · have hx : ((ratsOf us ds).map ratC)[k]? = some (ratC (decDigits (us[k]?.getD 0), decDigits (ds[k]?.getD 0))) := by rw [List.getElem?_map, ratsOf_get hlt]; rfl
      obtain ⟨b, o, rfl, hab, hx0, hx1⟩ := HL.out k _ hx
      have hx0' := (hbw.cell (p := ⟨b, o + k * 2, Option.none⟩) hab).trans hx0
      have hx1' := (hbw.cell (p := ⟨b, o + k * 2 + 1, Option.none⟩) hab).trans hx1
      simp only [ratC] at hx0' hx1'
      have HNX : Hid (comTo ds (k + 1) = ds[k]?.getD 0 / Nat.gcd (comTo ds k) (ds[k]?.getD 0) * comTo ds k) := Lib.hid rfl
      have hdn := HIN.out.den hlt
      have hcm := HIN.out.com (k := k) (by omega)
      have HDL := Lib.hid (sm4_dec hdn.1)
      have HDP := Lib.hid (sm4_pcs hdn.1)
      have HMP := Lib.hid (sm4_pcs hcm.1)
      have HD0 := Lib.hid hdn.2
      clear hx hx0 hx1 hdn hcm
      generalize ds[k]?.getD 0 = d at *
      generalize comTo ds k = m at *
      generalize us[k]?.getD 0 = nu at *
      have HT := Lib.hid (fun W => to03_dec d W HDL.out)
      generalize (decDigits d).toArray = D at *
      generalize (decDigits nu).toArray = N at *
      have HB := Lib.hid hbw
      have HWB := Lib.hid hwb
      clear hbw hwb
      rename World => W1
      go_upto_region 5 with (fail)
      obtain ⟨W5, hW5⟩ : ∃ W5, W5 = W1.alloc (.cells #[.string ⟨N⟩, .string ⟨D⟩] 63) := ⟨_, rfl⟩
      rw [← hW5]
      have HX5 : Hid (Cells W5 W1.heap.size 63 [.string ⟨N⟩, .string ⟨D⟩]) := Lib.hid (by rw [hW5]; exact Cells.new _ _ _)
      have HB5 : Hid (Below w.heap.size w W5) := Lib.hid (by rw [hW5]; exact HB.out.alloc HB.out.size _)
      have HW5 : Hid (WB W5 w1.heap.size m) := Lib.hid (by rw [hW5]; exact HWB.out.below ((Below.refl _ _).alloc (Nat.le_refl _) _))
      clear hW5 HWB HB
      go_cut [6] (fun s6 wx => ∃ g6, s6 = .pointer (some ⟨g6, 0, Option.none⟩) ∧ WB wx g6 (Nat.gcd m d) ∧ Below W5.heap.size W5 wx ∧ W5.heap.size ≤ g6)
      case first =>
        obtain ⟨AC, cC, hC, tC⟩ := HW5.out
        have HC := Lib.hid hC
        have TC := Lib.hid tC
        have x1 := HX5.out.cell 1
        have q0 := hC.cell 0
        have q1 := hC.cell 1
        simp only [List.getElem?_cons_succ, List.getElem?_cons_zero] at x1 q0 q1
        have hlx := HX5.out.lt
        have hlc := hC.lt
        clear hC tC
        have hB : Below W5.heap.size W5 W5.drew := below_drw (Below.refl _ _)
        go_region_held3 (fun w' => w'.cell? ⟨W1.heap.size, 1, Option.none⟩ = some (.string ⟨D⟩) ∧ w'.cell? ⟨w1.heap.size, 0, Option.none⟩ = some (.bool false) ∧ w'.cell? ⟨w1.heap.size, 1, Option.none⟩ = some (.slice AC (pcs m).length cC))
          (first | exact ⟨keep_cell x1 hB, keep_cell q0 hB, keep_cell q1 hB⟩ | exact ⟨keep_cell x1 (Below.alloc hB (hB).size _), keep_cell q0 (Below.alloc hB (hB).size _), keep_cell q1 (Below.alloc hB (hB).size _)⟩ | exact ⟨keep_cell x1 (st2_below (by omega) hB), keep_cell q0 (st2_below (by omega) hB), keep_cell q1 (st2_below (by omega) hB)⟩ | go_keep)
          ((first
            | (go_at_call 57; (with_reducible refine (HT.out _).mono ?_); rintro e w7 ⟨⟨A7, c7, rfl, ht7⟩, hbk⟩; have hB7 : Below W5.heap.size W5 w7 := (by first | exact hB.trans (hbk.mono hB.size) | exact (Below.alloc hB hB.size _).trans (hbk.mono (Below.alloc hB hB.size _).size)); replace hB := hB7; have hs7 := hB7.size; have HF2 := Lib.hid (fun (W' : World) (h : Below w7.heap.size w7 W') => gcdW03_any false false _ _ m d W' (TC.out.below (hB7.trans (h.mono hB7.size))) (ht7.below h) (by have := HMP.out; omega) (by have := HDP.out; omega)); (first | have K1 : Cells w7 (W5.heap.size) 93 [.bool false, .slice Option.none 0 0] := ((Cells.new W5 93 #[.bool false, .slice Option.none 0 0]).drew).below hbk (Cells.lt (Cells.drew (Cells.new W5 93 #[.bool false, .slice Option.none 0 0]))) | skip); clear hbk)
            | (go_at_call 56; (first | (with_reducible refine (HF2.out _ (Below.refl _ _)).mono ?_) | (with_reducible refine (HF2.out _ ((Below.refl _ _).alloc (Nat.le_refl _) _)).mono ?_)); rintro e w8 ⟨⟨A8, c8, rfl, ht8⟩, hbk⟩; have hB8 : Below W5.heap.size W5 w8 := (by first | exact hB.trans (hbk.mono hB.size) | exact (Below.alloc hB hB.size _).trans (hbk.mono (Below.alloc hB hB.size _).size)); replace hB := hB8; have hs8 := hB8.size; (first | (have J1 : Cells w8 (W5.heap.size) 93 [.bool false, .slice Option.none 0 0] := K1.below hbk K1.lt; have z10 := J1.cell 0; have z11 := J1.cell 1; have f10 := J1.free 0; have f11 := J1.free 1; have l10 := J1.lt; simp only [List.getElem?_cons_succ, List.getElem?_cons_zero] at z10 z11) | (have J1 : Cells w8 (w7.heap.size) 93 [.bool false, .slice Option.none 0 0] := (Cells.new w7 93 #[.bool false, .slice Option.none 0 0]).below hbk (Cells.lt (Cells.new w7 93 #[.bool false, .slice Option.none 0 0])); have z10 := J1.cell 0; have z11 := J1.cell 1; have f10 := J1.free 0; have f11 := J1.free 1; have l10 := J1.lt; simp only [List.getElem?_cons_succ, List.getElem?_cons_zero] at z10 z11) | skip); clear hbk)))
        all_goals
          go_wp2_with fail
          go_meet
          refine ⟨_, rfl, ?_, ?_, ?_⟩
          · (first | with_reducible exact WB.new rfl ht8 | with_reducible exact WB.st J1 rfl ht8)
          · (first | with_reducible exact (Below.alloc hB (hB).size _) | with_reducible exact (st2_below (by omega) hB))
          · omega
      case rest =>
        obtain ⟨g6, rfl, hw6, hb6, _⟩ := hcut
        rename World => W6
        have HG6 := Lib.hid hw6
        have HX6 := Lib.hid (HX5.out.below hb6 HX5.out.lt)
        have HB6 := Lib.hid (HB5.out.trans (hb6.mono HB5.out.size))
        have HW6 := Lib.hid (HW5.out.below hb6)
        have HGP : Hid (0 < Nat.gcd m d) := Lib.hid (Nat.gcd_pos_of_pos_right _ HD0.out)
        have HGL : Hid ((pcs (Nat.gcd m d)).length ≤ 400) := Lib.hid (Nat.le_trans (pcs_len_mono (Nat.gcd_le_right _ HD0.out)) HDP.out)
        clear hw6 hb6 HX5 HB5 HW5
        generalize Nat.gcd m d = G at *
        go_upto_region 6 with (fail)
        go_cut [7] (fun s7 wx => ∃ g7, s7 = .pointer (some ⟨g7, 0, Option.none⟩) ∧ WB wx g7 (d / G) ∧ Below W6.heap.size W6 wx ∧ W6.heap.size ≤ g7)
        case first =>
          obtain ⟨AC, cC, hC, tC⟩ := HG6.out
          have HC := Lib.hid hC
          have TC := Lib.hid tC
          have x1 := HX6.out.cell 1
          have q0 := hC.cell 0
          have q1 := hC.cell 1
          simp only [List.getElem?_cons_succ, List.getElem?_cons_zero] at x1 q0 q1
          have hlx := HX6.out.lt
          have hlc := hC.lt
          clear hC tC
          have hB : Below W6.heap.size W6 W6.drew := below_drw (Below.refl _ _)
          go_region_held3 (fun w' => w'.cell? ⟨W1.heap.size, 1, Option.none⟩ = some (.string ⟨D⟩) ∧ w'.cell? ⟨g6, 0, Option.none⟩ = some (.bool false) ∧ w'.cell? ⟨g6, 1, Option.none⟩ = some (.slice AC (pcs G).length cC))
            (first | exact ⟨keep_cell x1 hB, keep_cell q0 hB, keep_cell q1 hB⟩ | exact ⟨keep_cell x1 (Below.alloc hB (hB).size _), keep_cell q0 (Below.alloc hB (hB).size _), keep_cell q1 (Below.alloc hB (hB).size _)⟩ | exact ⟨keep_cell x1 (Below.alloc (Below.alloc hB (hB).size _) ((Below.alloc hB (hB).size _)).size _), keep_cell q0 (Below.alloc (Below.alloc hB (hB).size _) ((Below.alloc hB (hB).size _)).size _), keep_cell q1 (Below.alloc (Below.alloc hB (hB).size _) ((Below.alloc hB (hB).size _)).size _)⟩ | exact ⟨keep_cell x1 (st2_below (by omega) hB), keep_cell q0 (st2_below (by omega) hB), keep_cell q1 (st2_below (by omega) hB)⟩ | exact ⟨keep_cell x1 (Below.alloc (st2_below (by omega) hB) ((st2_below (by omega) hB)).size _), keep_cell q0 (Below.alloc (st2_below (by omega) hB) ((st2_below (by omega) hB)).size _), keep_cell q1 (Below.alloc (st2_below (by omega) hB) ((st2_below (by omega) hB)).size _)⟩ | exact ⟨keep_cell x1 (st2_below (by omega) (st2_below (by omega) hB)), keep_cell q0 (st2_below (by omega) (st2_below (by omega) hB)), keep_cell q1 (st2_below (by omega) (st2_below (by omega) hB))⟩ | go_keep)
            ((first
              | (go_at_call 57; (with_reducible refine (HT.out _).mono ?_); rintro e w7 ⟨⟨A7, c7, rfl, ht7⟩, hbk⟩; have hB7 : Below W6.heap.size W6 w7 := (by first | exact hB.trans (hbk.mono hB.size) | exact (Below.alloc hB hB.size _).trans (hbk.mono (Below.alloc hB hB.size _).size) | exact (Below.alloc (Below.alloc hB hB.size _) (Below.alloc hB hB.size _).size _).trans (hbk.mono (Below.alloc (Below.alloc hB hB.size _) (Below.alloc hB hB.size _).size _).size)); replace hB := hB7; have hs7 := hB7.size; have HF2 := Lib.hid (fun (W' : World) (h : Below w7.heap.size w7 W') => floorW_any false _ _ d G W' (ht7.below h) (TC.out.below (hB7.trans (h.mono hB7.size))) HGP.out (by have := HDP.out; omega) (by have := HGL.out; omega)); (first | (have K1 : Cells w7 (W6.heap.size) 93 [.bool false, .slice Option.none 0 0] := Cells.below ((((Cells.new W6 93 #[.bool false, .slice Option.none 0 0]).alloc (.cells #[.bool false, .slice Option.none 0 0] 93)).drew)) hbk (Cells.lt (Cells.drew (Cells.alloc (Cells.new W6 93 #[.bool false, .slice Option.none 0 0]) (.cells #[.bool false, .slice Option.none 0 0] 93)))); have K2 : Cells w7 (W6.heap.size + 1) 93 [.bool false, .slice Option.none 0 0] := Cells.below (Cells.new1 W6 (.cells #[.bool false, .slice Option.none 0 0] 93) 93 #[.bool false, .slice Option.none 0 0]).drew hbk (Cells.lt (Cells.drew (Cells.new1 W6 (.cells #[.bool false, .slice Option.none 0 0] 93) 93 #[.bool false, .slice Option.none 0 0])))) | have K1 : Cells w7 (W6.heap.size) 93 [.bool false, .slice Option.none 0 0] := ((Cells.new W6 93 #[.bool false, .slice Option.none 0 0]).drew).below hbk (Cells.lt (Cells.drew (Cells.new W6 93 #[.bool false, .slice Option.none 0 0]))) | skip); clear hbk)
              | (go_at_call 58; (first | (with_reducible refine (HF2.out _ (Below.refl _ _)).mono ?_) | (with_reducible refine (HF2.out _ ((Below.refl _ _).alloc (Nat.le_refl _) _)).mono ?_) | (with_reducible refine (HF2.out _ (((Below.refl _ _).alloc (Nat.le_refl _) _).alloc (by simp) _)).mono ?_)); rintro e w8 ⟨⟨A8, c8, A9, c9, rfl, ht8⟩, hbk⟩; have hB8 : Below W6.heap.size W6 w8 := (by first | exact hB.trans (hbk.mono hB.size) | exact (Below.alloc hB hB.size _).trans (hbk.mono (Below.alloc hB hB.size _).size) | exact (Below.alloc (Below.alloc hB hB.size _) (Below.alloc hB hB.size _).size _).trans (hbk.mono (Below.alloc (Below.alloc hB hB.size _) (Below.alloc hB hB.size _).size _).size)); replace hB := hB8; have hs8 := hB8.size; (first | (have J1 : Cells w8 (W6.heap.size) 93 [.bool false, .slice Option.none 0 0] := K1.below hbk K1.lt; have J2 : Cells w8 (W6.heap.size + 1) 93 [.bool false, .slice Option.none 0 0] := K2.below hbk K2.lt; have z10 := J1.cell 0; have z11 := J1.cell 1; have f10 := J1.free 0; have f11 := J1.free 1; have l10 := J1.lt; simp only [List.getElem?_cons_succ, List.getElem?_cons_zero] at z10 z11; have z20 := J2.cell 0; have z21 := J2.cell 1; have f20 := J2.free 0; have f21 := J2.free 1; have l20 := J2.lt; simp only [List.getElem?_cons_succ, List.getElem?_cons_zero] at z20 z21) | (have J1 : Cells w8 (W6.heap.size) 93 [.bool false, .slice Option.none 0 0] := (K1.alloc (.cells #[.bool false, .slice Option.none 0 0] 93)).below hbk (Cells.lt (K1.alloc (.cells #[.bool false, .slice Option.none 0 0] 93))); have J2 : Cells w8 (w7.heap.size) 93 [.bool false, .slice Option.none 0 0] := (Cells.new w7 93 #[.bool false, .slice Option.none 0 0]).below hbk (Cells.lt (Cells.new w7 93 #[.bool false, .slice Option.none 0 0])); have lk1 := K1.lt; have z10 := J1.cell 0; have z11 := J1.cell 1; have f10 := J1.free 0; have f11 := J1.free 1; have l10 := J1.lt; simp only [List.getElem?_cons_succ, List.getElem?_cons_zero] at z10 z11; have z20 := J2.cell 0; have z21 := J2.cell 1; have f20 := J2.free 0; have f21 := J2.free 1; have l20 := J2.lt; simp only [List.getElem?_cons_succ, List.getElem?_cons_zero] at z20 z21) | (have J1 : Cells w8 (W6.heap.size) 93 [.bool false, .slice Option.none 0 0] := K1.below hbk K1.lt; have z10 := J1.cell 0; have z11 := J1.cell 1; have f10 := J1.free 0; have f11 := J1.free 1; have l10 := J1.lt; simp only [List.getElem?_cons_succ, List.getElem?_cons_zero] at z10 z11) | (have J1 : Cells w8 (w7.heap.size) 93 [.bool false, .slice Option.none 0 0] := ((Cells.new w7 93 #[.bool false, .slice Option.none 0 0]).alloc (.cells #[.bool false, .slice Option.none 0 0] 93)).below hbk (Cells.lt (Cells.alloc (Cells.new w7 93 #[.bool false, .slice Option.none 0 0]) (.cells #[.bool false, .slice Option.none 0 0] 93))); have J2 : Cells w8 (w7.heap.size + 1) 93 [.bool false, .slice Option.none 0 0] := (Cells.new1 w7 (.cells #[.bool false, .slice Option.none 0 0] 93) 93 #[.bool false, .slice Option.none 0 0]).below hbk (Cells.lt (Cells.new1 w7 (.cells #[.bool false, .slice Option.none 0 0] 93) 93 #[.bool false, .slice Option.none 0 0])); have z10 := J1.cell 0; have z11 := J1.cell 1; have f10 := J1.free 0; have f11 := J1.free 1; have l10 := J1.lt; simp only [List.getElem?_cons_succ, List.getElem?_cons_zero] at z10 z11; have z20 := J2.cell 0; have z21 := J2.cell 1; have f20 := J2.free 0; have f21 := J2.free 1; have l20 := J2.lt; simp only [List.getElem?_cons_succ, List.getElem?_cons_zero] at z20 z21) | (have J1 : Cells w8 (w7.heap.size) 93 [.bool false, .slice Option.none 0 0] := (Cells.new w7 93 #[.bool false, .slice Option.none 0 0]).below hbk (Cells.lt (Cells.new w7 93 #[.bool false, .slice Option.none 0 0])); have z10 := J1.cell 0; have z11 := J1.cell 1; have f10 := J1.free 0; have f11 := J1.free 1; have l10 := J1.lt; simp only [List.getElem?_cons_succ, List.getElem?_cons_zero] at z10 z11) | skip); clear hbk)))
          all_goals
            go_wp2_with fail
            go_meet
            refine ⟨_, rfl, ?_, ?_, ?_⟩
            · (first | with_reducible exact WB.st_far (by omega) (st2_far (by omega) J2) (WB.st J1 rfl ht8) | with_reducible exact WB.st_far (by omega) (st2_far (by omega) J1) (WB.st J2 rfl ht8) | with_reducible exact (WB.st J1 rfl ht8).below ((Below.refl _ _).alloc (Nat.le_refl _) _) | with_reducible exact WB.new_st J1 rfl ht8 | with_reducible exact (WB.new rfl ht8).below ((Below.refl _ _).alloc (Nat.le_refl _) _) | with_reducible exact WB.new1 rfl ht8)
            · (first | with_reducible exact (Below.alloc (Below.alloc hB (hB).size _) ((Below.alloc hB (hB).size _)).size _) | with_reducible exact (Below.alloc (st2_below (by omega) hB) ((st2_below (by omega) hB)).size _) | with_reducible exact (st2_below (by omega) (st2_below (by omega) hB)))
            · omega
        case rest =>
          obtain ⟨g7, rfl, hw7, hb7, _⟩ := hcut
          rename World => W7
          have HB7 := Lib.hid (HB6.out.trans (hb7.mono HB6.out.size))
          obtain ⟨AC, cC, hC, tC⟩ := HW6.out.below hb7
          obtain ⟨AQ, cQ, hQ, tQ⟩ := hw7
          have HQP : Hid ((pcs (d / G)).length ≤ 400) := Lib.hid (Nat.le_trans (pcs_len_mono (Nat.div_le_self _ _)) HDP.out)
          have hm := mulW_any false false _ _ m (d / G) W7 tC tQ (by have := HMP.out; omega) (by have := HQP.out; omega)
          rw [show ((false != false) && decide (0 < m * (d / G))) = false from rfl] at hm
          have HM := Lib.hid hm
          have HC := Lib.hid hC
          have q0 := hC.cell 0
          have q1 := hC.cell 1
          have r0 := hQ.cell 0
          have r1 := hQ.cell 1
          simp only [List.getElem?_cons_succ, List.getElem?_cons_zero] at q0 q1 r0 r1
          clear hb7 hC tC hQ tQ hm HW6 HG6 HX6 HB6 HQP
          go_wp2_with fail
          refine HM.out.mono ?_
          rintro e W8 ⟨⟨A8, c8, rfl, ht8⟩, hb8⟩
          have HC8 := Lib.hid (HC.out.below hb8 HC.out.lt)
          have HB8 := Lib.hid (HB7.out.trans (hb8.mono HB7.out.size))
          have HT8 := Lib.hid ht8
          have z0 := HC8.out.cell 0
          have z1 := HC8.out.cell 1
          have f0 := HC8.out.free 0
          have f1 := HC8.out.free 1
          simp only [List.getElem?_cons_succ, List.getElem?_cons_zero] at z0 z1
          clear hb8 ht8 HM HC HB7 q0 q1 r0 r1
          go_wp2_with fail
          go_roundw
          case rel => exact ⟨k + 1, by omega, by go_num, by rw [HNX.out, Nat.mul_comm (d / G) m]; exact WB.st HC8.out rfl HT8.out, st2_below HG1.out HB8.out⟩
          case measure => simp [intOf]; omega
    · obtain rfl : k = ds.length := by omega
      have HWC := Lib.hid hwb
      have HBW := Lib.hid hbw
      obtain ⟨C, hC⟩ : ∃ C, comTo ds ds.length = C := ⟨_, rfl⟩
      have HCM : Hid (Sm4 C ∧ 0 < C) := Lib.hid (by rw [← hC]; exact HIN.out.com (Nat.le_refl _))
      have HNA : Box (∀ k, nrAt us ds k = C / (ds[k]?.getD 0) * (us[k]?.getD 0)) := ⟨fun k => by rw [← hC]; rfl⟩
      rw [hC] at HWC
      clear hC hwb hbw
      rename World => W9
      go_wp2_with fail
      refine (HO0.out _ (HS.out.below HBW.out (Nat.le_refl _))).mono ?_
      rintro e w10 ⟨⟨A0, c0, n0, rfl, hn0, ht0⟩, hb10⟩
      obtain ⟨W11, hW11⟩ : ∃ W11, W11 = w10.alloc (.cells #[.bool false, .slice A0 n0 c0] 93) := ⟨_, rfl⟩
      have HWA : Hid (WB W11 w10.heap.size 0) := Lib.hid (by rw [hW11]; exact WB.new hn0 ht0)
      have HWD : Hid (WB W11 w1.heap.size C) := Lib.hid (by rw [hW11]; exact (HWC.out.below hb10).below ((Below.refl _ _).alloc (Nat.le_refl _) _))
      have HBB : Hid (Below w.heap.size w W11) := Lib.hid (by rw [hW11]; have h := HBW.out.trans (hb10.mono HBW.out.size); exact h.alloc h.size _)
      have HGA : Hid (w.heap.size ≤ w10.heap.size) := Lib.hid (Nat.le_trans HBW.out.size hb10.size)
      have HNE : Hid (w1.heap.size < w10.heap.size) := Lib.hid (Nat.lt_of_lt_of_le HWC.out.lt hb10.size)
      have HHE : Hid (W11.heap.size = w10.heap.size + 1) := Lib.hid (by rw [hW11, World.size_alloc])
      clear hb10 hn0 ht0 HWC HBW HO0
      go_wp2_with fail
      rw [← hW11]
      clear hW11
      obtain ⟨i0, hi0, hz0, hz1, hz2⟩ := info_parts Tryz.info_whole
      go_loopw [9, 48] (fun nv i wr => ∃ k : Nat, k ≤ ds.length ∧ i = .int .i64 k ∧ WOwn wr W11.heap.size nv (nrL us ds k) ∧ WB wr w1.heap.size C ∧ WB wr w10.heap.size (gTo us ds k) ∧ Below w.heap.size w wr ∧ W11.heap.size ≤ wr.heap.size) (fun _ i _ => ds.length - (intOf i).toNat)
      case atStart => exact ⟨0, Nat.zero_le _, rfl, WOwn.nil _ _, HWD.out, HWA.out, HBB.out, Nat.le_refl _⟩
      case round =>
        clear HWD HWA HBB
        obtain ⟨k, hk, rfl, hwo, hwc, hwa, hbw, hsz⟩ := hrel
        by_cases hlt : k < ds.length
        · have hx : ((ratsOf us ds).map ratC)[k]? = some (ratC (decDigits (us[k]?.getD 0), decDigits (ds[k]?.getD 0))) := by rw [List.getElem?_map, ratsOf_get hlt]; rfl
          obtain ⟨b, o, rfl, hab, hx0, hx1⟩ := HL.out k _ hx
          have hx0' := (hbw.cell (p := ⟨b, o + k * 2, Option.none⟩) hab).trans hx0
          have hx1' := (hbw.cell (p := ⟨b, o + k * 2 + 1, Option.none⟩) hab).trans hx1
          simp only [ratC] at hx0' hx1'
          have HNX : Hid (nrL us ds (k + 1) = nrL us ds k ++ [C / (ds[k]?.getD 0) * (us[k]?.getD 0)]) := Lib.hid (by rw [nrL_next, HNA.out])
          have HGX : Hid (gTo us ds (k + 1) = Nat.gcd (gTo us ds k) (C / (ds[k]?.getD 0) * (us[k]?.getD 0))) := Lib.hid (by rw [gTo, HNA.out])
          have HLE : Hid ((nrL us ds k).length = k) := Lib.hid (nrL_len _ _ _)
          have hdn := HIN.out.den hlt
          have hun := HIN.out.num hlt
          have hnr := HIN.out.nr hlt
          rw [HNA.out] at hnr
          have hga := (HIN.out.all k (by omega)).1
          have HDL := Lib.hid (sm4_dec hdn.1)
          have HDP := Lib.hid (sm4_pcs hdn.1)
          have HNL := Lib.hid (sm4_dec hun.1)
          have HNP := Lib.hid (sm4_pcs hun.1)
          have HRP := Lib.hid (sm4_pcs hnr.1)
          have HGP := Lib.hid (sm4_pcs hga)
          have HCP := Lib.hid (sm4_pcs HCM.out.1)
          have HD0 := Lib.hid hdn.2
          have HQP : Hid ((pcs (C / (ds[k]?.getD 0))).length ≤ 400) := Lib.hid (Nat.le_trans (pcs_len_mono (Nat.div_le_self _ _)) HCP.out)
          clear hx hx0 hx1 hdn hun hnr hga
          generalize ds[k]?.getD 0 = d at *
          generalize us[k]?.getD 0 = nu at *
          generalize gTo us ds k = ga at *
          generalize nrL us ds k = ns at *
          have HT := Lib.hid (fun W => to03_dec d W HDL.out)
          have HTN := Lib.hid (fun W => to03_dec nu W HNL.out)
          generalize (decDigits d).toArray = D at *
          generalize (decDigits nu).toArray = N at *
          have HB := Lib.hid hbw
          have HWO := Lib.hid hwo
          have HWC := Lib.hid hwc
          have HWA := Lib.hid hwa
          clear hbw hwo hwc hwa
          rename World => W11b
          go_upto_region 14 with (fail)
          obtain ⟨W12, hW12⟩ : ∃ W12, W12 = W11b.alloc (.cells #[.string ⟨N⟩, .string ⟨D⟩] 63) := ⟨_, rfl⟩
          rw [← hW12]
          have hbx : Below W11b.heap.size W11b W12 := by rw [hW12]; exact (Below.refl _ _).alloc (Nat.le_refl _) _
          have HX12 : Hid (Cells W12 W11b.heap.size 63 [.string ⟨N⟩, .string ⟨D⟩]) := Lib.hid (by rw [hW12]; exact Cells.new _ _ _)
          have HB12 : Hid (Below w.heap.size w W12) := Lib.hid (HB.out.trans (hbx.mono HB.out.size))
          have HW12 : Hid (WB W12 w1.heap.size C) := Lib.hid (HWC.out.below hbx)
          have HA12 : Hid (WB W12 w10.heap.size ga) := Lib.hid (HWA.out.below hbx)
          have HO12 := Lib.hid (HWO.out.below hbx)
          have HS12 : Hid (W11.heap.size ≤ W12.heap.size) := Lib.hid (Nat.le_trans hsz hbx.size)
          clear hW12 hbx HWC HWA HWO HB hsz
          go_cut [13] (fun s13 wx => ∃ g13, s13 = .pointer (some ⟨g13, 0, Option.none⟩) ∧ WB wx g13 (C / d) ∧ Below W12.heap.size W12 wx ∧ W12.heap.size ≤ g13)
          case first =>
            obtain ⟨AC, cC, hC, tC⟩ := HW12.out
            have HC := Lib.hid hC
            have TC := Lib.hid tC
            have x1 := HX12.out.cell 1
            have q0 := hC.cell 0
            have q1 := hC.cell 1
            simp only [List.getElem?_cons_succ, List.getElem?_cons_zero] at x1 q0 q1
            have hlx := HX12.out.lt
            have hlc := hC.lt
            clear hC tC
            have hB : Below W12.heap.size W12 W12.drew := below_drw (Below.refl _ _)
            go_region_held3 (fun w' => w'.cell? ⟨W11b.heap.size, 1, Option.none⟩ = some (.string ⟨D⟩) ∧ w'.cell? ⟨w1.heap.size, 0, Option.none⟩ = some (.bool false) ∧ w'.cell? ⟨w1.heap.size, 1, Option.none⟩ = some (.slice AC (pcs C).length cC))
              (first | exact ⟨keep_cell x1 hB, keep_cell q0 hB, keep_cell q1 hB⟩ | exact ⟨keep_cell x1 (Below.alloc hB (hB).size _), keep_cell q0 (Below.alloc hB (hB).size _), keep_cell q1 (Below.alloc hB (hB).size _)⟩ | exact ⟨keep_cell x1 (Below.alloc (Below.alloc hB (hB).size _) ((Below.alloc hB (hB).size _)).size _), keep_cell q0 (Below.alloc (Below.alloc hB (hB).size _) ((Below.alloc hB (hB).size _)).size _), keep_cell q1 (Below.alloc (Below.alloc hB (hB).size _) ((Below.alloc hB (hB).size _)).size _)⟩ | exact ⟨keep_cell x1 (st2_below (by omega) hB), keep_cell q0 (st2_below (by omega) hB), keep_cell q1 (st2_below (by omega) hB)⟩ | exact ⟨keep_cell x1 (Below.alloc (st2_below (by omega) hB) ((st2_below (by omega) hB)).size _), keep_cell q0 (Below.alloc (st2_below (by omega) hB) ((st2_below (by omega) hB)).size _), keep_cell q1 (Below.alloc (st2_below (by omega) hB) ((st2_below (by omega) hB)).size _)⟩ | exact ⟨keep_cell x1 (st2_below (by omega) (st2_below (by omega) hB)), keep_cell q0 (st2_below (by omega) (st2_below (by omega) hB)), keep_cell q1 (st2_below (by omega) (st2_below (by omega) hB))⟩ | go_keep)
              ((first
                | (go_at_call 57; (with_reducible refine (HT.out _).mono ?_); rintro e w7 ⟨⟨A7, c7, rfl, ht7⟩, hbk⟩; have hB7 : Below W12.heap.size W12 w7 := (by first | exact hB.trans (hbk.mono hB.size) | exact (Below.alloc hB hB.size _).trans (hbk.mono (Below.alloc hB hB.size _).size) | exact (Below.alloc (Below.alloc hB hB.size _) (Below.alloc hB hB.size _).size _).trans (hbk.mono (Below.alloc (Below.alloc hB hB.size _) (Below.alloc hB hB.size _).size _).size)); replace hB := hB7; have hs7 := hB7.size; have HF2 := Lib.hid (fun (W' : World) (h : Below w7.heap.size w7 W') => floorW_any false _ _ C d W' (TC.out.below (hB7.trans (h.mono hB7.size))) (ht7.below h) HD0.out (by have := HCP.out; omega) (by have := HDP.out; omega)); (first | (have K1 : Cells w7 (W12.heap.size) 93 [.bool false, .slice Option.none 0 0] := Cells.below ((((Cells.new W12 93 #[.bool false, .slice Option.none 0 0]).alloc (.cells #[.bool false, .slice Option.none 0 0] 93)).drew)) hbk (Cells.lt (Cells.drew (Cells.alloc (Cells.new W12 93 #[.bool false, .slice Option.none 0 0]) (.cells #[.bool false, .slice Option.none 0 0] 93)))); have K2 : Cells w7 (W12.heap.size + 1) 93 [.bool false, .slice Option.none 0 0] := Cells.below (Cells.new1 W12 (.cells #[.bool false, .slice Option.none 0 0] 93) 93 #[.bool false, .slice Option.none 0 0]).drew hbk (Cells.lt (Cells.drew (Cells.new1 W12 (.cells #[.bool false, .slice Option.none 0 0] 93) 93 #[.bool false, .slice Option.none 0 0])))) | have K1 : Cells w7 (W12.heap.size) 93 [.bool false, .slice Option.none 0 0] := ((Cells.new W12 93 #[.bool false, .slice Option.none 0 0]).drew).below hbk (Cells.lt (Cells.drew (Cells.new W12 93 #[.bool false, .slice Option.none 0 0]))) | skip); clear hbk)
                | (go_at_call 58; (first | (with_reducible refine (HF2.out _ (Below.refl _ _)).mono ?_) | (with_reducible refine (HF2.out _ ((Below.refl _ _).alloc (Nat.le_refl _) _)).mono ?_) | (with_reducible refine (HF2.out _ (((Below.refl _ _).alloc (Nat.le_refl _) _).alloc (by simp) _)).mono ?_)); rintro e w8 ⟨⟨A8, c8, A9, c9, rfl, ht8⟩, hbk⟩; have hB8 : Below W12.heap.size W12 w8 := (by first | exact hB.trans (hbk.mono hB.size) | exact (Below.alloc hB hB.size _).trans (hbk.mono (Below.alloc hB hB.size _).size) | exact (Below.alloc (Below.alloc hB hB.size _) (Below.alloc hB hB.size _).size _).trans (hbk.mono (Below.alloc (Below.alloc hB hB.size _) (Below.alloc hB hB.size _).size _).size)); replace hB := hB8; have hs8 := hB8.size; (first | (have J1 : Cells w8 (W12.heap.size) 93 [.bool false, .slice Option.none 0 0] := K1.below hbk K1.lt; have J2 : Cells w8 (W12.heap.size + 1) 93 [.bool false, .slice Option.none 0 0] := K2.below hbk K2.lt; have z10 := J1.cell 0; have z11 := J1.cell 1; have f10 := J1.free 0; have f11 := J1.free 1; have l10 := J1.lt; simp only [List.getElem?_cons_succ, List.getElem?_cons_zero] at z10 z11; have z20 := J2.cell 0; have z21 := J2.cell 1; have f20 := J2.free 0; have f21 := J2.free 1; have l20 := J2.lt; simp only [List.getElem?_cons_succ, List.getElem?_cons_zero] at z20 z21) | (have J1 : Cells w8 (W12.heap.size) 93 [.bool false, .slice Option.none 0 0] := (K1.alloc (.cells #[.bool false, .slice Option.none 0 0] 93)).below hbk (Cells.lt (K1.alloc (.cells #[.bool false, .slice Option.none 0 0] 93))); have J2 : Cells w8 (w7.heap.size) 93 [.bool false, .slice Option.none 0 0] := (Cells.new w7 93 #[.bool false, .slice Option.none 0 0]).below hbk (Cells.lt (Cells.new w7 93 #[.bool false, .slice Option.none 0 0])); have lk1 := K1.lt; have z10 := J1.cell 0; have z11 := J1.cell 1; have f10 := J1.free 0; have f11 := J1.free 1; have l10 := J1.lt; simp only [List.getElem?_cons_succ, List.getElem?_cons_zero] at z10 z11; have z20 := J2.cell 0; have z21 := J2.cell 1; have f20 := J2.free 0; have f21 := J2.free 1; have l20 := J2.lt; simp only [List.getElem?_cons_succ, List.getElem?_cons_zero] at z20 z21) | (have J1 : Cells w8 (W12.heap.size) 93 [.bool false, .slice Option.none 0 0] := K1.below hbk K1.lt; have z10 := J1.cell 0; have z11 := J1.cell 1; have f10 := J1.free 0; have f11 := J1.free 1; have l10 := J1.lt; simp only [List.getElem?_cons_succ, List.getElem?_cons_zero] at z10 z11) | (have J1 : Cells w8 (w7.heap.size) 93 [.bool false, .slice Option.none 0 0] := ((Cells.new w7 93 #[.bool false, .slice Option.none 0 0]).alloc (.cells #[.bool false, .slice Option.none 0 0] 93)).below hbk (Cells.lt (Cells.alloc (Cells.new w7 93 #[.bool false, .slice Option.none 0 0]) (.cells #[.bool false, .slice Option.none 0 0] 93))); have J2 : Cells w8 (w7.heap.size + 1) 93 [.bool false, .slice Option.none 0 0] := (Cells.new1 w7 (.cells #[.bool false, .slice Option.none 0 0] 93) 93 #[.bool false, .slice Option.none 0 0]).below hbk (Cells.lt (Cells.new1 w7 (.cells #[.bool false, .slice Option.none 0 0] 93) 93 #[.bool false, .slice Option.none 0 0])); have z10 := J1.cell 0; have z11 := J1.cell 1; have f10 := J1.free 0; have f11 := J1.free 1; have l10 := J1.lt; simp only [List.getElem?_cons_succ, List.getElem?_cons_zero] at z10 z11; have z20 := J2.cell 0; have z21 := J2.cell 1; have f20 := J2.free 0; have f21 := J2.free 1; have l20 := J2.lt; simp only [List.getElem?_cons_succ, List.getElem?_cons_zero] at z20 z21) | (have J1 : Cells w8 (w7.heap.size) 93 [.bool false, .slice Option.none 0 0] := (Cells.new w7 93 #[.bool false, .slice Option.none 0 0]).below hbk (Cells.lt (Cells.new w7 93 #[.bool false, .slice Option.none 0 0])); have z10 := J1.cell 0; have z11 := J1.cell 1; have f10 := J1.free 0; have f11 := J1.free 1; have l10 := J1.lt; simp only [List.getElem?_cons_succ, List.getElem?_cons_zero] at z10 z11) | skip); clear hbk)))
            all_goals
              go_wp2_with fail
              go_meet
              refine ⟨_, rfl, ?_, ?_, ?_⟩
              · (first | with_reducible exact WB.st_far (by omega) (st2_far (by omega) J2) (WB.st J1 rfl ht8) | with_reducible exact WB.st_far (by omega) (st2_far (by omega) J1) (WB.st J2 rfl ht8) | with_reducible exact (WB.st J1 rfl ht8).below ((Below.refl _ _).alloc (Nat.le_refl _) _) | with_reducible exact WB.new_st J1 rfl ht8 | with_reducible exact (WB.new rfl ht8).below ((Below.refl _ _).alloc (Nat.le_refl _) _) | with_reducible exact WB.new1 rfl ht8)
              · (first | with_reducible exact (Below.alloc (Below.alloc hB (hB).size _) ((Below.alloc hB (hB).size _)).size _) | with_reducible exact (Below.alloc (st2_below (by omega) hB) ((st2_below (by omega) hB)).size _) | with_reducible exact (st2_below (by omega) (st2_below (by omega) hB)))
              · omega
          case rest =>
            obtain ⟨g13, rfl, hw13, hb13, _⟩ := hcut
            rename World => W13
            have HG13 := Lib.hid hw13
            have HX13 := Lib.hid (HX12.out.below hb13 HX12.out.lt)
            have HB13 := Lib.hid (HB12.out.trans (hb13.mono HB12.out.size))
            have HW13 := Lib.hid (HW12.out.below hb13)
            have HA13 := Lib.hid (HA12.out.below hb13)
            have HO13 := Lib.hid (HO12.out.below hb13)
            have HS13 : Hid (W11.heap.size ≤ W13.heap.size) := Lib.hid (Nat.le_trans HS12.out hb13.size)
            clear hw13 hb13 HX12 HB12 HW12 HA12 HO12 HS12
            generalize C / d = QQ at *
            go_upto_region 15 with (fail)
            go_cut [15] (fun s15 wx => ∃ g15, s15 = .pointer (some ⟨g15, 0, Option.none⟩) ∧ WB wx g15 (QQ * nu) ∧ Below W13.heap.size W13 wx ∧ W13.heap.size ≤ g15)
            case first =>
              obtain ⟨AC, cC, hC, tC⟩ := HG13.out
              have HC := Lib.hid hC
              have TC := Lib.hid tC
              have x1 := HX13.out.cell 0
              have q0 := hC.cell 0
              have q1 := hC.cell 1
              simp only [List.getElem?_cons_succ, List.getElem?_cons_zero] at x1 q0 q1
              have hlx := HX13.out.lt
              have hlc := hC.lt
              clear hC tC
              have hB : Below W13.heap.size W13 W13.drew := below_drw (Below.refl _ _)
              go_region_held3 (fun w' => w'.cell? ⟨W11b.heap.size, 0, Option.none⟩ = some (.string ⟨N⟩) ∧ w'.cell? ⟨g13, 0, Option.none⟩ = some (.bool false) ∧ w'.cell? ⟨g13, 1, Option.none⟩ = some (.slice AC (pcs QQ).length cC))
                (first | exact ⟨keep_cell x1 hB, keep_cell q0 hB, keep_cell q1 hB⟩ | exact ⟨keep_cell x1 (Below.alloc hB (hB).size _), keep_cell q0 (Below.alloc hB (hB).size _), keep_cell q1 (Below.alloc hB (hB).size _)⟩ | exact ⟨keep_cell x1 (st2_below (by omega) hB), keep_cell q0 (st2_below (by omega) hB), keep_cell q1 (st2_below (by omega) hB)⟩ | go_keep)
                ((first
                  | (go_at_call 57; (with_reducible refine (HTN.out _).mono ?_); rintro e w7 ⟨⟨A7, c7, rfl, ht7⟩, hbk⟩; have hB7 : Below W13.heap.size W13 w7 := (by first | exact hB.trans (hbk.mono hB.size) | exact (Below.alloc hB hB.size _).trans (hbk.mono (Below.alloc hB hB.size _).size)); replace hB := hB7; have hs7 := hB7.size; have HF2 := Lib.hid (fun (W' : World) (h : Below w7.heap.size w7 W') => mulW_any false false _ _ QQ nu W' (TC.out.below (hB7.trans (h.mono hB7.size))) (ht7.below h) (by have := HQP.out; omega) (by have := HNP.out; omega)); (first | have K1 : Cells w7 (W13.heap.size) 93 [.bool false, .slice Option.none 0 0] := ((Cells.new W13 93 #[.bool false, .slice Option.none 0 0]).drew).below hbk (Cells.lt (Cells.drew (Cells.new W13 93 #[.bool false, .slice Option.none 0 0]))) | skip); clear hbk)
                  | (go_at_call 59; (first | (with_reducible refine (HF2.out _ (Below.refl _ _)).mono ?_) | (with_reducible refine (HF2.out _ ((Below.refl _ _).alloc (Nat.le_refl _) _)).mono ?_)); rintro e w8 ⟨⟨A8, c8, rfl, ht8⟩, hbk⟩; have hB8 : Below W13.heap.size W13 w8 := (by first | exact hB.trans (hbk.mono hB.size) | exact (Below.alloc hB hB.size _).trans (hbk.mono (Below.alloc hB hB.size _).size)); replace hB := hB8; have hs8 := hB8.size; (first | (have J1 : Cells w8 (W13.heap.size) 93 [.bool false, .slice Option.none 0 0] := K1.below hbk K1.lt; have z10 := J1.cell 0; have z11 := J1.cell 1; have f10 := J1.free 0; have f11 := J1.free 1; have l10 := J1.lt; simp only [List.getElem?_cons_succ, List.getElem?_cons_zero] at z10 z11) | (have J1 : Cells w8 (w7.heap.size) 93 [.bool false, .slice Option.none 0 0] := (Cells.new w7 93 #[.bool false, .slice Option.none 0 0]).below hbk (Cells.lt (Cells.new w7 93 #[.bool false, .slice Option.none 0 0])); have z10 := J1.cell 0; have z11 := J1.cell 1; have f10 := J1.free 0; have f11 := J1.free 1; have l10 := J1.lt; simp only [List.getElem?_cons_succ, List.getElem?_cons_zero] at z10 z11) | skip); clear hbk)))
              all_goals
                go_wp2_with fail
                go_meet
                refine ⟨_, rfl, ?_, ?_, ?_⟩
                · (first | with_reducible exact WB.new rfl ht8 | with_reducible exact WB.st J1 rfl ht8)
                · (first | with_reducible exact (Below.alloc hB (hB).size _) | with_reducible exact (st2_below (by omega) hB))
                · omega
            case rest =>
              obtain ⟨g15, rfl, hw15, hb15, hle15⟩ := hcut
              rename World => W15
              obtain ⟨us2, h0, h1, h2⟩ := HO13.out
              rw [HLE.out] at h1
              have hne15 : u9.ownBlock ≠ some g15 := fun e => by have := (h1.lt g15 e).2; omega
              have hneC : u9.ownBlock ≠ some w1.heap.size := fun e => by have := (h1.lt _ e).1; have := HNE.out; have := HHE.out; omega
              have hneA : u9.ownBlock ≠ some w10.heap.size := fun e => by have := (h1.lt _ e).1; have := HHE.out; omega
              have hO := own_below h1 hb15
              have h2' : ∀ (j n : Nat), ns[j]? = some n → ∃ u, us2[j]? = some u ∧ TRow W15 u (pcsI n) := fun j n hj => by obtain ⟨u, h3, h4⟩ := h2 j n hj; exact ⟨u, h3, h4.below hb15⟩
              have HO := Lib.hid hO
              have HV := Lib.hid h2'
              have HU0 := Lib.hid h0
              have HB15 := Lib.hid (HB13.out.trans (hb15.mono HB13.out.size))
              have HW15 := Lib.hid (HW13.out.below hb15)
              have HA15 := Lib.hid (HA13.out.below hb15)
              have HG15 := Lib.hid hw15
              have HNEQ : Box (u9.ownBlock ≠ some g15 ∧ u9.ownBlock ≠ some w1.heap.size ∧ u9.ownBlock ≠ some w10.heap.size) := ⟨⟨hne15, hneC, hneA⟩⟩
              have hs15 : W11.heap.size ≤ W15.heap.size := Nat.le_trans HS13.out hb15.size
              have HWN : Hid (w.heap.size ≤ W11.heap.size) := Lib.hid (by rw [HHE.out]; have := HGA.out; omega)
              obtain ⟨AN, cN, hN, tN⟩ := hw15
              have HN := Lib.hid hN
              have TN := Lib.hid tN
              have r0 := hN.cell 0
              have r1 := hN.cell 1
              simp only [List.getElem?_cons_succ, List.getElem?_cons_zero] at r0 r1
              have HK6 := Lib.hid hn6
              clear hb15 hle15 h0 h1 h2 hne15 hneC hneA hO h2' hN tN HO13 HB13 HW13 HA13 HG13 HX13 HS13
              generalize QQ * nu = nv at *
              go_upto_region 17 with (at_builtin; refine wpList_append_own _ rfl _ _ _ rfl W11.heap.size 93 i0 (.agg #[.bool false, .slice Option.none 0 0]) 2 32 Tryz.underlying99 hi0 hz0 hz1 hz2 rfl (by decide) _ _ _ rfl (HO.out.alloc _) ⟨W15.heap.size, 0, Option.none⟩ 1 1 [.bool false, .slice AN (pcs nv).length cN] rfl rfl (cell_two_new _ _ _ _) (by intro u hu; simp at hu; rcases hu with rfl | rfl <;> rfl) (by unfold maxLen; omega) (by omega) (by simp; omega) ?_; intro v9 w9 hown9 hg9 _)
              have hal : Below W15.heap.size W15 (W15.alloc (.cells #[.bool false, .slice AN (pcs nv).length cN] 93)) := (Below.refl _ _).alloc (Nat.le_refl _) _
              have hO9 := HO.out.alloc (.cells #[.bool false, .slice AN (pcs nv).length cN] 93)
              have HB9 : Hid (Below w.heap.size w w9) := Lib.hid ((HB15.out.alloc HB15.out.size _).grown hg9 (by have := HB15.out.size; simp; omega) (fun k hk => by have := (HO.out.lt k hk).1; have := HWN.out; omega))
              have HS9 : Hid (W11.heap.size ≤ w9.heap.size) := Lib.hid (Nat.le_trans hs15 (by have := hg9.size; simp at this; omega))
              have HW9 := Lib.hid ((HW15.out.below hal).grown hO9 hg9 HNEQ.out.2.1)
              have HA9 := Lib.hid ((HA15.out.below hal).grown hO9 hg9 HNEQ.out.2.2)
              have HG9 := Lib.hid ((HG15.out.below hal).grown hO9 hg9 HNEQ.out.1)
              have HO9 : Hid (WOwn w9 W11.heap.size v9 (ns ++ [nv])) := Lib.hid (by
                rw [← HLE.out] at hO9 hown9
                exact WOwn.snoc HU0.out hO9 (fun j n hj => by obtain ⟨u, h3, h4⟩ := HV.out j n hj; exact ⟨u, h3, h4.below hal⟩) (TN.out.below hal) hown9 hg9)
              obtain ⟨AA, cA, hA, tA⟩ := HA9.out
              obtain ⟨AM, cM, hM, tM⟩ := HG9.out
              have HGC := Lib.hid (gcdW03_any false false _ _ ga nv w9 tA tM (by have := HGP.out; omega) (by have := HRP.out; omega))
              have HCA := Lib.hid hA
              have q0 := hA.cell 0
              have q1 := hA.cell 1
              have s0 := hM.cell 0
              have s1 := hM.cell 1
              simp only [List.getElem?_cons_succ, List.getElem?_cons_zero] at q0 q1 s0 s1
              clear hA tA hM tM hal hO9 hown9 hg9 HO HV HU0 HB15 HW15 HA15 HG15 HNEQ r0 r1 HN TN hs15
              go_wp2_with fail
              refine HGC.out.mono ?_
              rintro e W17 ⟨⟨A17, c17, rfl, ht17⟩, hb17⟩
              have HC17 := Lib.hid (HCA.out.below hb17 HCA.out.lt)
              have HB17 := Lib.hid (HB9.out.trans (hb17.mono HB9.out.size))
              have HW17 := Lib.hid (HW9.out.below hb17)
              have HO17 := Lib.hid (HO9.out.below hb17)
              have HS17 : Hid (W11.heap.size ≤ W17.heap.size) := Lib.hid (Nat.le_trans HS9.out hb17.size)
              have HT17 := Lib.hid ht17
              have z0 := HC17.out.cell 0
              have z1 := HC17.out.cell 1
              have f0 := HC17.out.free 0
              have f1 := HC17.out.free 1
              simp only [List.getElem?_cons_succ, List.getElem?_cons_zero] at z0 z1
              clear hb17 ht17 HGC HCA HB9 HW9 HA9 HG9 HO9 HS9 q0 q1 s0 s1
              go_wp2_with fail
              go_roundw
              case rel =>
                refine ⟨k + 1, by omega, by go_num, ?_, ?_, ?_, st2_below HGA.out HB17.out, ?_⟩
                · rw [HNX.out]; exact HO17.out.st (by rw [HHE.out]; omega) HC17.out
                · exact WB.st_far (by have := HNE.out; omega) HC17.out HW17.out
                · rw [HGX.out]; exact WB.st HC17.out rfl HT17.out
                · rw [st2_size]; exact HS17.out
              case measure => simp [intOf]; omega
        · obtain rfl : k = ds.length := by omega
          obtain ⟨AN, cN, rfl, hwat⟩ := hwo.shape
          have hnl : (nrL us ds ds.length).length = ds.length := nrL_len _ _ _
          rw [hnl]
          have HWT := Lib.hid hwat
          have HWG := Lib.hid hwa
          have HBW := Lib.hid hbw
          have HOA : Hid (outTo us ds ds.length = propL us ds) := Lib.hid (outTo_all us ds)
          have HAL := Lib.hid (HIN.out.all ds.length (Nat.le_refl _))
          clear hnl hwat hwa hbw hwo hwc hsz HCM HNA HGA HNE HHE
          rename World => W20
          obtain ⟨j0, hj0, gz0, gz1, gz2⟩ := info_parts Tryz.info_Int
          go_wp2_with fail
          go_loopw [16, 75] (fun ov i wr => ∃ k : Nat, k ≤ ds.length ∧ i = .int .i64 k ∧ TxtsAt wr W20.heap.size ov (outTo us ds k) ∧ Below W20.heap.size W20 wr) (fun _ i _ => ds.length - (intOf i).toNat)
          case atStart => exact ⟨0, Nat.zero_le _, rfl, TxtsAt.nil _ _, Below.refl _ _⟩
          case round =>
            obtain ⟨k, hk, rfl, htx, hbv⟩ := hrel
            by_cases hlt : k < ds.length
            · obtain ⟨bb, oo, uu, rfl, hbb, hc0, hc1, htr⟩ := HWT.out k _ (nrL_get hlt)
              have hc0' := (hbv.cell (p := ⟨bb, oo + k * 2, Option.none⟩) hbb).trans hc0
              have hc1' := (hbv.cell (p := ⟨bb, oo + k * 2 + 1, Option.none⟩) hbb).trans hc1
              have HNX := Lib.hid (outTo_next us ds k)
              have HLE : Hid ((outTo us ds k).length = k) := Lib.hid (outTo_len _ _ _)
              have hnr := HIN.out.nr hlt
              have HG0 : Hid (0 < gTo us ds ds.length) := Lib.hid (HAL.out.2 (by omega))
              have HGP := Lib.hid (sm4_pcs HAL.out.1)
              have HRP := Lib.hid (sm4_pcs hnr.1)
              have HQP := Lib.hid (sm4_pcs (HIN.out.out hlt))
              have HQD := Lib.hid (sm4_dec (HIN.out.out hlt))
              have htr2 := htr.below hbv
              obtain ⟨AE, cE, rfl, _⟩ := htr.isRow
              rw [pcsI_len] at htr2 hc1'
              have HTR := Lib.hid htr2
              have HTX := Lib.hid htx
              have htx2 := htx
              have HBV := Lib.hid hbv
              have HG1 := Lib.hid (HWG.out.below hbv)
              clear hc0 hc1 htr htr2 htx hbv hnr
              generalize nrAt us ds k = nv at *
              generalize gTo us ds ds.length = G at *
              obtain ⟨AG, cG, hG, tG⟩ := HG1.out
              have HCG := Lib.hid hG
              have hFL := fun W h1 h2 => floorW_any false (.slice AE (pcs nv).length cE) (.slice AG (pcs G).length cG) nv G W h1 h2 HG0.out (by have := HRP.out; omega) (by have := HGP.out; omega)
              have HFL := Lib.hid hFL
              have HTG := Lib.hid tG
              have hlg := hG.lt
              have q0 := hG.cell 0
              have q1 := hG.cell 1
              simp only [List.getElem?_cons_succ, List.getElem?_cons_zero] at q0 q1
              clear hG tG hFL
              rename World => W21
              go_wp2_with fail
              refine (HFL.out _ (HTR.out.below ((Below.refl _ _).alloc (Nat.le_refl _) _)) (HTG.out.below ((Below.refl _ _).alloc (Nat.le_refl _) _))).mono ?_
              rintro e W22 ⟨⟨AQ, cQ, AR, cR, rfl, htq⟩, hb22⟩
              have HB22 : Hid (Below W20.heap.size W20 W22) := Lib.hid (by have h := HBV.out.alloc HBV.out.size (.cells #[.bool false, .slice AE (pcs nv).length cE] 93); exact h.trans (hb22.mono h.size))
              have HTQ := Lib.hid htq
              have hfr := fun W hW h => from03_any false (.slice AQ (pcs (nv / G)).length cQ) (nv / G) W hW h (fun h => by cases h) (by have := HQP.out; omega) (by have := HQD.out; omega)
              rw [show sgnd false (nv / G) = ((nv / G : Nat) : Int) from rfl, itoa_nat] at hfr
              have HFR := Lib.hid hfr
              have hown := htx2
              unfold TxtsAt at hown
              rw [HLE.out] at hown
              have HO := Lib.hid (own_below (own_below hown ((Below.refl _ _).alloc (Nat.le_refl _) (.cells #[.bool false, .slice AE (pcs nv).length cE] 93))) hb22)
              clear htq hb22 hfr hown htx2 HTX
              generalize nv / G = q at *
              generalize nv % G = rr at *
              go_upto_region 24 with (fail)
              obtain ⟨W24, hW24⟩ : ∃ W24, W24 = (W22.alloc (.cells #[.bool false, .slice AQ (pcs q).length cQ] 93)).alloc (.cells #[.bool false, .slice AR (pcs rr).length cR] 93) := ⟨_, rfl⟩
              have hb24 : Below W22.heap.size W22 W24 := by rw [hW24]; exact ((Below.refl _ _).alloc (Nat.le_refl _) _).alloc (by simp) _
              have hc24 : Cells W24 W22.heap.size 93 [.bool false, .slice AQ (pcs q).length cQ] := by rw [hW24]; exact (Cells.new _ _ _).alloc _
              rw [← hW24]
              have HB24 := Lib.hid (HB22.out.trans (hb24.mono HB22.out.size))
              have HO24 := Lib.hid (own_below HO.out hb24)
              have HF24 := Lib.hid (HFR.out W24 (HS.out.below (HBW.out.trans (HB24.out.mono HBW.out.size)) (Nat.le_refl _)) (HTQ.out.below hb24))
              have z0 := hc24.cell 0
              have z1 := hc24.cell 1
              simp only [List.getElem?_cons_succ, List.getElem?_cons_zero] at z0 z1
              clear hW24 hb24 hc24 HFR HTQ HO HB22
              have HK6 := Lib.hid hn6
              go_wp2_with fail
              refine HF24.out.mono ?_
              rintro e W25 ⟨rfl, hb25⟩
              have HO25 := Lib.hid (own_below HO24.out hb25)
              have HB25 := Lib.hid (HB24.out.trans (hb25.mono HB24.out.size))
              have hs25 : W20.heap.size ≤ W25.heap.size := HB25.out.size
              clear hb25 HF24 HO24 HB24 z0 z1
              go_wp2_with (at_builtin; refine wpList_append_own _ rfl _ _ _ rfl W20.heap.size 51 j0 (.string ⟨#[]⟩) 1 16 Tryz.underlying47 hj0 gz0 gz1 gz2 rfl (by decide) _ _ _ rfl (HO25.out.alloc _) ⟨W25.heap.size, 0, Option.none⟩ 1 1 [_] rfl rfl (cell_one_new _ _ _) (by intro u hu; simp at hu; subst hu; rfl) (by unfold maxLen; omega) (by omega) (by simp; omega) ?_; intro v9 w9 hown9 hg9 _)
              go_roundw
              case rel =>
                refine ⟨k + 1, by omega, by go_num, ?_, (HB25.out.alloc hs25 _).grown hg9 (by simp; omega) (fun k hk => (HO25.out.lt k hk).1)⟩
                unfold TxtsAt
                rw [HNX.out, txts_snoc, List.length_append, HLE.out]
                exact hown9
              case measure => simp [intOf]; omega
            · obtain rfl : k = ds.length := by omega
              rw [HOA.out] at htx
              have HTX := Lib.hid htx
              have HLN : Hid (W20.heap.size ≤ _ ∧ Below W20.heap.size W20 _) := Lib.hid ⟨hbv.size, hbv⟩
              obtain ⟨A9, c9, rfl⟩ := htx.shape
              clear htx
              go_wp2_with fail
              go_ret
              exact ⟨⟨_, rfl, own_base HTX.out HBW.out.size⟩, HBW.out.trans (hbv.mono HBW.out.size)⟩

end Go.Proofs.YtaiglcbgllnciaaGreatDoor

namespace Go.Proofs.YtaiglcbgllnciaaGreatDoor
open Go.RowKit Go.Lib

/-- A row of its own stays where another one, in another block, grows. -/
theorem own_apartN {w w' : World} {base n s : Nat} {e : TypeId} {v : Value} {xs : List Value} {B : Option Nat} (h : w.ownsRow base e s v n xs) (hg : w.grownBy w' B) (hne : ∀ g, v.ownBlock = some g → some g ≠ B) : w'.ownsRow base e s v n xs := by
  refine ⟨h.1, ?_⟩
  rcases h.2 with h0 | ⟨g, cap, cur, rfl, b, c, d⟩
  · exact .inl h0
  · exact .inr ⟨g, cap, cur, rfl, b, (hg.block g (Array.getElem?_eq_some_iff.1 c).1 (hne g rfl)).trans c, d⟩
/-- Two blocks that are not one. -/
def Apart (u v : Value) : Prop := ∀ g, u.ownBlock = some g → v.ownBlock ≠ some g
theorem ratsOf_map {α : Type} (f g : α → Nat) (l : List α) : ratsOf (l.map f) (l.map g) = l.map fun x => (decDigits (f x), decDigits (g x)) := by
  apply List.ext_getElem
  · rw [ratsOf_len, List.length_map, List.length_map]
  · intro j h1 h2
    have hj : j < l.length := by rw [List.length_map] at h2; exact h2
    have e := ratsOf_get (us := l.map f) (ds := l.map g) (k := j) (by rw [List.length_map]; exact hj)
    rw [List.getElem?_eq_getElem h1, map_getD hj, map_getD hj] at e
    rw [Option.some.inj e, List.getElem_map]
/-- The fractions of the first notes, or their inverses. -/
def ratL (p : List Int) (inv : Bool) (l : List (List Int)) (k : Nat) : List (List UInt8 × List UInt8) := (l.take k).map fun x => (decDigits (upN inv p x), decDigits (dnN inv p x))
theorem ratL_len {p : List Int} {inv : Bool} {l : List (List Int)} {k : Nat} (h : k ≤ l.length) : (ratL p inv l k).length = k := by unfold ratL; rw [List.length_map, List.length_take]; omega
theorem ratL_next {p : List Int} {inv : Bool} {l : List (List Int)} {k : Nat} (h : k < l.length) : ratL p inv l (k + 1) = ratL p inv l k ++ [(decDigits (upN inv p l[k]), decDigits (dnN inv p l[k]))] := by
  unfold ratL
  rw [← List.take_append_getElem h, List.map_append]
  rfl
theorem ratL_all (p : List Int) (inv : Bool) (l : List (List Int)) : ratL p inv l l.length = ratsOf (l.map (upN inv p)) (l.map (dnN inv p)) := by unfold ratL; rw [List.take_length, ratsOf_map]

/-- The numbers of a small chord are short. -/
theorem numbers_sm4 {p : List Int} {inv : Bool} {c : List (List Int)} (hp : Primed p) (h3 : p.length ≤ 3) (hb : BaseC p c) (h6 : c.length ≤ 6) (h0 : 0 < c.length) : ∀ n ∈ numbersL p inv c, Sm4 n := by
  have hin := prop_in inv hp h3 hb h6
  rw [← prop_numbers (inv := inv) hp hb.len h0, ← outTo_all]
  intro n hn
  unfold outTo at hn
  obtain ⟨j, hj, rfl⟩ := List.mem_map.1 hn
  exact hin.out (List.mem_range.1 hj)
theorem text_le {p : List Int} {c : List (List Int)} (hp : Primed p) (h3 : p.length ≤ 3) (hb : BaseC p c) (h6 : c.length ≤ 6) (h0 : 0 < c.length) : (chTxt p c).length ≤ 10000 := by
  have hj := join_len_le (ws := (numbersL p false c).map decDigits) (b := 58) (k := 400) fun x hx => by
    obtain ⟨n, hn, rfl⟩ := List.mem_map.1 hx
    exact sm4_dec (numbers_sm4 hp h3 hb h6 h0 n hn)
  rw [List.length_map] at hj
  have hl : (numbersL p false c).length = c.length := by unfold numbersL; exact List.length_map _
  unfold chTxt
  omega
theorem shortN_next {l : List Nat} {k : Nat} (h : k < l.length) : shortN (l.take (k + 1)) = (shortN (l.take k) && decide ((decDigits l[k]).length ≤ 9)) := by
  unfold shortN
  rw [← List.take_append_getElem h, List.all_append]
  simp
end Go.Proofs.YtaiglcbgllnciaaGreatDoor
