/- schismaref03: magnitudes as pieces; trim, above. schismaref03.minus: a magnitude less a magnitude that is not greater. schismaref03.MulW, times. schismaref03.times. schismaref03.divide. schismaref03.divide: the walk. schismaref03.GcdW. schismaref03.From. -/
import Derived.Test.YtaiglcbgllnciaaGreatDoorGMNu
import Derived.Test.YtaiglcbgllnciaaGreatDoorGDNu
import Derived.Laws.AppendOwnNone
import Derived.Test.YtaiglcbgllnciaaGreatDoorGJMNu
namespace Go.Proofs.YtaiglcbgllnciaaGreatDoor
open Go.RowKit Go.Lib

/-- Pieces as ints. -/
def nI (l : List Nat) : List Int := l.map Int.ofNat
theorem nI_len (l : List Nat) : (nI l).length = l.length := by simp [nI]
theorem pcsI_eq (n : Nat) : pcsI n = nI (pcs n) := rfl
theorem pcsI_len (n : Nat) : (pcsI n).length = (pcs n).length := nI_len _
theorem nI_append (a b : List Nat) : nI (a ++ b) = nI a ++ nI b := by simp [nI]
theorem nI_get (l : List Nat) (k : Nat) : (nI l)[k]?.getD 0 = ((l[k]?.getD 0 : Nat) : Int) := by
  unfold nI
  rw [List.getElem?_map]
  cases l[k]? <;> rfl
theorem nI_take (l : List Nat) (k : Nat) : (nI l).take k = nI (l.take k) := by simp [nI, List.map_take]
theorem nI_set (l : List Nat) (k v : Nat) : (nI l).set k (v : Int) = nI (l.set k v) := by simp [nI, List.map_set]
theorem Row.n_at {w : World} {B n k : Nat} {A : Option Addr} {l : List Nat} (h : Row w B 1 A n (is (nI l))) (hk : k < n) :
    ∃ ad, A = some ad ∧ ad.block < B ∧ w.cell? (ad.add k) = some (.int .i64 ((l[k]?.getD 0 : Nat) : Int)) := by
  obtain ⟨ad, e, hb, hc⟩ := h.i_at hk
  exact ⟨ad, e, hb, by rw [hc, nI_get]⟩
theorem cells_set_n {w : World} {g : Nat} {e : TypeId} {o : List Nat} (h : Cells w g e (is (nI o))) (k v : Nat) (z : Int) (hz : z = (v : Int)) : Cells (w.setCell ⟨g, k, Option.none⟩ (.int .i64 z)) g e (is (nI (o.set k v))) := by
  subst hz
  rw [← nI_set]
  have e1 : is ((nI o).set k (v : Int)) = (is (nI o)).set k (.int .i64 (v : Int)) := by unfold is; rw [List.map_set]
  rw [e1]
  exact h.set k _
theorem is_snoc_n (o : List Nat) (v : Nat) (z : Int) (hz : z = (v : Int)) : is (nI (o ++ [v])) = is (nI o) ++ [.int .i64 z] := by
  subst hz
  rw [nI_append, is_append]; rfl

theorem keepLen_spec (x : List Int) : ∀ n, (∀ j, keepLen x n ≤ j → j < n → x[j]?.getD 0 = 0) ∧ (keepLen x n = 0 ∨ x[keepLen x n - 1]?.getD 0 ≠ 0)
  | 0 => ⟨fun j _ h => by omega, .inl rfl⟩
  | n + 1 => by
    obtain ⟨h1, h2⟩ := keepLen_spec x n
    rw [keepLen]
    by_cases hz : x[n]?.getD 0 = 0
    · rw [if_pos hz]
      refine ⟨fun j a b => ?_, h2⟩
      by_cases hj : j = n
      · rw [hj]; exact hz
      · exact h1 j a (by omega)
    · rw [if_neg hz]
      exact ⟨fun j a b => by omega, .inr (by simpa using hz)⟩
theorem keep_nI (l : List Nat) (h : Pcs l) : keepLen (nI l) (nI l).length = (pcs (pv l)).length := by
  obtain ⟨h1, h2⟩ := keepLen_spec (nI l) (nI l).length
  have hk := keepLen_le (nI l) (nI l).length
  generalize keepLen (nI l) (nI l).length = k at *
  rw [nI_len] at hk h1
  refine trim_len l k l.length h rfl hk (fun j a b => ?_) ?_
  · have := h1 j a b
    rw [nI_get] at this
    omega
  · rcases h2 with h2 | h2
    · exact .inl h2
    · rw [nI_get] at h2
      exact .inr (by omega)
theorem pcs_len_pos (n : Nat) : decide (0 < (pcs n).length) = decide (0 < n) := by
  rcases Nat.eq_zero_or_pos n with h | h
  · subst h; rw [pcs_zero]; rfl
  · rw [pcs_pos h]; simp [h]
theorem TRow.trim {w : World} {A : Option Addr} {c n : Nat} {l : List Nat} (h : TRow w (.slice A n c) (nI l)) (hp : Pcs l) : TRow w (.slice A (pcs (pv l)).length c) (pcsI (pv l)) := by
  obtain ⟨h1, h2⟩ := trim_take l hp
  have h3 := h.cut (k := (pcs (pv l)).length) (by rw [nI_len]; exact h1)
  rw [nI_take, h2] at h3
  exact h3

/-- schismaref03.trim of pieces. -/
theorem trim03_pcs (b : Bool) (A : Option Addr) (c n : Nat) (l : List Nat) (w : World) (hn : l.length = n) (hv : TRow w (.slice A n c) (nI l)) (hp : Pcs l) :
    Calls Tryz.prog 89 #[.agg #[.bool b, .slice A n c]] w fun e w' => e = .returned (.agg #[.bool (b && decide (0 < pv l)), .slice A (pcs (pv l)).length c]) ∧ TRow w' (.slice A (pcs (pv l)).length c) (pcsI (pv l)) ∧ Below w.heap.size w w' := by
  subst hn
  have h := trim03_at b A c (nI l) w (by rw [nI_len]; exact hv.isRow)
  rw [keep_nI l hp, nI_len, pcs_len_pos] at h
  refine h.mono ?_
  rintro e w' ⟨rfl, hb⟩
  exact ⟨rfl, (hv.trim hp).below hb, hb⟩

set_option maxHeartbeats 1000000 in
theorem above_at (A1 A2 : Option Addr) (x y c1 c2 : Nat) (w : World) (h1 : Row w w.heap.size 1 A1 (pcs x).length (is (nI (pcs x)))) (h2 : Row w w.heap.size 1 A2 (pcs y).length (is (nI (pcs y)))) (hx : (pcs x).length ≤ 1000000) :
    Calls Tryz.prog 121 #[.slice A1 (pcs x).length c1, .slice A2 (pcs y).length c2] w fun e w' => e = .returned (.int .i64 (cmpN x y)) ∧ Below w.heap.size w w' := by
  have p1 := pcs_lt x
  have p2 := pcs_lt y
  rcases Nat.lt_trichotomy (pcs x).length (pcs y).length with hlt | heq | hgt
  · have hc : cmpN x y = -1 := by unfold cmpN; rw [if_pos (pcs_len_lt hlt)]
    rw [hc]
    clear hc p1 p2
    generalize (pcs x).length = n at *
    generalize (pcs y).length = m at *
    go_enter Tryz.func121, Tryz.ntmps121
    go_wp2
    go_ret
    exact ⟨ret_int (by omega), Below.refl _ _⟩
  · have HEQ := Lib.hid heq
    have hxv := pv_pcs x
    have hyv := pv_pcs y
    generalize hl1 : pcs x = l at *
    generalize hl2 : pcs y = r at *
    have HXV := Lib.hid hxv
    have HYV := Lib.hid hyv
    clear heq hxv hyv hl1 hl2
    have hne : ((l.length : Int) != (r.length : Int)) = false := by simp [HEQ.out]
    go_enter Tryz.func121, Tryz.ntmps121
    go_wp2
    go_loopw [5] (fun i wr => ∃ k : Nat, k ≤ l.length ∧ i = .int .i64 ((k : Int) - 1) ∧ Box (l.drop k = r.drop k) ∧ Below w.heap.size w wr) (fun i _ => (intOf i + 1).toNat)
    case atStart => exact ⟨l.length, Nat.le_refl _, rfl, ⟨by rw [List.drop_of_length_le (Nat.le_refl _), List.drop_of_length_le (by rw [HEQ.out]; exact Nat.le_refl _)]⟩, Below.refl _ _⟩
    case round =>
      obtain ⟨k, hk, rfl, HD, hbw⟩ := hrel
      by_cases hk0 : 0 < k
      · obtain ⟨j, rfl⟩ : ∃ j, k = j + 1 := ⟨k - 1, by omega⟩
        obtain ⟨ad1, rfl, _, hca⟩ := (h1.below hbw (Nat.le_refl _)).n_at (k := j) (by omega)
        obtain ⟨ad2, rfl, _, hcb⟩ := (h2.below hbw (Nat.le_refl _)).n_at (k := j) (by rw [← HEQ.out]; omega)
        have hj1 : (((j + 1 : Nat) : Int) - 1) = (j : Int) := by omega
        rw [hj1]
        have hlt1 : Box (l[j]?.getD 0 < r[j]?.getD 0 → x < y) := ⟨fun h => by rw [← HXV.out, ← HYV.out]; exact pv_lt_at p1 HEQ.out (by omega) HD.out h⟩
        have hgt1 : Box (r[j]?.getD 0 < l[j]?.getD 0 → y < x) := ⟨fun h => by rw [← HXV.out, ← HYV.out]; exact pv_lt_at p2 HEQ.out.symm (by rw [← HEQ.out]; omega) HD.out.symm h⟩
        have heq1 : Box (l[j]?.getD 0 = r[j]?.getD 0 → l.drop j = r.drop j) := ⟨fun h => by
          have hl : j < l.length := by omega
          have hr : j < r.length := by rw [← HEQ.out]; omega
          rw [List.drop_eq_getElem_cons hl, List.drop_eq_getElem_cons hr, HD.out]
          rw [List.getElem?_eq_getElem hl, List.getElem?_eq_getElem hr] at h
          simp at h
          rw [h]⟩
        generalize l[j]?.getD 0 = a at *
        generalize r[j]?.getD 0 = b at *
        have hj0 : (0 : Int) ≤ (j : Int) := by omega
        have hjl : (j : Int) < (l.length : Int) := by omega
        have hjr : (j : Int) < (r.length : Int) := by rw [← HEQ.out]; omega
        clear hj1
        rcases Nat.lt_trichotomy a b with h | h | h
        · have hd : decide ((a : Int) < (b : Int)) = true := by simpa using h
          have HE : Box (cmpN x y = -1) := ⟨by unfold cmpN; rw [if_pos (hlt1.out h)]⟩
          go_wp2_with fail
          go_quiet (fail)
          go_wp2_with fail
          go_ret
          exact ⟨ret_int HE.out.symm, below_drewN hbw _⟩
        · subst h
          have HE := heq1.out rfl
          have HED : Box (l.drop j = r.drop j) := ⟨HE⟩
          clear HE heq1
          go_wp2_with fail
          go_quiet (fail)
          go_wp2_with fail
          go_quiet (fail)
          go_wp2_with fail
          go_roundw
          case rel => exact ⟨j, by omega, by go_num, HED, below_drewN hbw _⟩
          case measure => (simp [intOf]; try omega)
        · have hd : decide ((a : Int) < (b : Int)) = false := by simp; omega
          have hd2 : decide ((b : Int) < (a : Int)) = true := by simpa using h
          have HE : Box (cmpN x y = 1) := ⟨by have := hgt1.out h; unfold cmpN; rw [if_neg (by omega), if_neg (by omega)]⟩
          go_wp2_with fail
          go_quiet (fail)
          go_wp2_with fail
          go_quiet (fail)
          go_wp2_with fail
          go_ret
          exact ⟨ret_int HE.out.symm, below_drewN (below_drewN hbw _) _⟩
      · obtain rfl : k = 0 := by omega
        have HE : Box (cmpN x y = 0) := ⟨by
          have h := HD.out
          simp only [List.drop_zero] at h
          have : x = y := by rw [← HXV.out, ← HYV.out, h]
          unfold cmpN
          rw [if_neg (by omega), if_pos this]⟩
        go_wp2_with fail
        go_ret
        exact ⟨ret_int HE.out.symm, hbw⟩
  · have hc : cmpN x y = 1 := by unfold cmpN; have := pcs_len_lt hgt; rw [if_neg (by omega), if_neg (by omega)]
    rw [hc]
    clear hc p1 p2
    generalize (pcs x).length = n at *
    generalize (pcs y).length = m at *
    go_enter Tryz.func121, Tryz.ntmps121
    go_wp2
    go_ret
    exact ⟨ret_int (by omega), Below.refl _ _⟩

theorem above_any (v1 v2 : Value) (x y : Nat) (w : World) (h1 : TRow w v1 (pcsI x)) (h2 : TRow w v2 (pcsI y)) (hx : (pcs x).length ≤ 1000000) :
    Calls Tryz.prog 121 #[v1, v2] w fun e w' => e = .returned (.int .i64 (cmpN x y)) ∧ Below w.heap.size w w' := by
  obtain ⟨A1, c1, rfl, _, _, r1⟩ := h1.isRow
  obtain ⟨A2, c2, rfl, _, _, r2⟩ := h2.isRow
  rw [pcsI_len] at r1 r2 ⊢
  rw [pcsI_len]
  exact above_at A1 A2 x y c1 c2 w r1 r2 hx

end Go.Proofs.YtaiglcbgllnciaaGreatDoor

namespace Go.Proofs.YtaiglcbgllnciaaGreatDoor
open Go.RowKit Go.Lib

/-- What minus has reached after k pieces. -/
structure MinTo (l r : List Nat) (k bo : Nat) (o : List Nat) : Prop where
  len : o.length = k
  pcs : Pcs o
  bol : bo ≤ 1
  val : pv o + pv (r.take k) = pv (l.take k) + bo * 1000000000 ^ k

theorem pv_snoc (o : List Nat) (v : Nat) : pv (o ++ [v]) = pv o + 1000000000 ^ o.length * v := by rw [pv_append]; simp [pv]
theorem pv_take_next (r : List Nat) (k : Nat) : pv (r.take (k + 1)) = pv (r.take k) + 1000000000 ^ k * r[k]?.getD 0 := by
  by_cases h : k < r.length
  · exact pv_take_succ r k h
  · rw [List.take_of_length_le (by omega), List.take_of_length_le (by omega), List.getElem?_eq_none (by omega)]; simp
theorem pcs_snoc {o : List Nat} {v : Nat} (h : Pcs o) (hv : v < 1000000000) : Pcs (o ++ [v]) := by
  intro x hx
  rcases List.mem_append.1 hx with hx | hx
  · exact h x hx
  · rw [List.mem_singleton] at hx; omega
theorem minTo_start (l r : List Nat) : MinTo l r 0 0 [] := ⟨rfl, fun x h => by simp at h, by omega, by simp [pv]⟩
theorem minTo_step {l r : List Nat} {k bo : Nat} {o : List Nat} (h : MinTo l r k bo o) (x y bo2 v : Nat) (hx : l[k]?.getD 0 = x) (hy : r[k]?.getD 0 = y) (hv : v < 1000000000) (hb : bo2 ≤ 1) (he : v + bo + y = x + bo2 * 1000000000) : MinTo l r (k + 1) bo2 (o ++ [v]) := by
  refine ⟨by simp [h.len], pcs_snoc h.pcs hv, hb, ?_⟩
  rw [pv_snoc, h.len, pv_take_next, pv_take_next, hx, hy]
  have e := h.val
  generalize pv o = a at *
  generalize pv (r.take k) = b at *
  generalize pv (l.take k) = c at *
  rw [Nat.pow_succ]
  generalize (1000000000 : Nat) ^ k = P at *
  have e2 : P * (v + bo + y) = P * (x + bo2 * 1000000000) := by rw [he]
  rw [Nat.mul_add, Nat.mul_add, Nat.mul_add] at e2
  rw [Nat.mul_comm bo P] at e
  have e3 : bo2 * (P * 1000000000) = P * (bo2 * 1000000000) := by rw [Nat.mul_left_comm]
  rw [e3]
  omega
theorem minTo_done {x y bo : Nat} {o : List Nat} (h : MinTo (pcs x) (pcs y) (pcs x).length bo o) (hyx : y ≤ x) : pv o = x - y := by
  have e := h.val
  rw [List.take_of_length_le (Nat.le_refl _), List.take_of_length_le (pcs_len_mono hyx), pv_pcs, pv_pcs] at e
  have hl := pv_lt o h.pcs
  rw [h.len] at hl
  rcases (show bo = 0 ∨ bo = 1 by have := h.bol; omega) with rfl | rfl
  · omega
  · omega

theorem own_apart {w : World} {base : Nat} {e : TypeId} {size n c : Nat} {A : Option Addr} {m : Nat} {xs : List Value} (h : w.ownsRow base e size (.slice A m c) n xs) : (∀ ad, A = some ad → base ≤ ad.block) ∧ (A = Option.none → c = 0) := by
  rcases h.2 with ⟨hv, _⟩ | ⟨g, cap, cur, hv, hb, _⟩
  · injection hv with h1 _ h3
    subst h1 h3
    exact ⟨(fun ad h => by cases h), fun _ => rfl⟩
  · injection hv with h1 _ _
    subst h1
    exact ⟨(fun ad h => by injection h with h; subst h; exact hb), (fun h => by cases h)⟩

set_option maxRecDepth 100000 in
set_option maxHeartbeats 2000000 in
theorem minus03_any (v1 v2 : Value) (x y : Nat) (w : World) (h1 : TRow w v1 (pcsI x)) (h2 : TRow w v2 (pcsI y)) (hyx : y ≤ x) (hx : (pcs x).length ≤ 1000000) :
    Calls Tryz.prog 123 #[v1, v2] w fun e w' => (∃ A c o, e = .returned (.slice A o.length c) ∧ TRow w' (.slice A o.length c) (nI o) ∧ Pcs o ∧ pv o = x - y ∧ (∀ ad, A = some ad → w.heap.size ≤ ad.block) ∧ (A = Option.none → c = 0)) ∧ Below w.heap.size w w' := by
  obtain ⟨i0, hi0, hz0, hz1, hz2⟩ := info_parts Tryz.info_int
  obtain ⟨A1, c1, rfl, _, _, r1⟩ := h1.isRow
  obtain ⟨A2, c2, rfl, _, _, r2⟩ := h2.isRow
  rw [pcsI_len] at r1 r2 ⊢
  rw [pcsI_len]
  have hly : (pcs y).length ≤ (pcs x).length := pcs_len_mono hyx
  have HDN : Box (∀ bo o, MinTo (pcs x) (pcs y) (pcs x).length bo o → pv o = x - y) := ⟨fun bo o h => minTo_done h hyx⟩
  have HP1 : Box (Pcs (pcs x)) := ⟨pcs_lt x⟩
  have HP2 : Box (Pcs (pcs y)) := ⟨pcs_lt y⟩
  change Row w w.heap.size 1 A1 (pcs x).length (is (nI (pcs x))) at r1
  change Row w w.heap.size 1 A2 (pcs y).length (is (nI (pcs y))) at r2
  have R1 := Lib.hid r1
  have R2 := Lib.hid r2
  obtain ⟨z, HZ⟩ : ∃ z, Box (x - y = z) := ⟨_, ⟨rfl⟩⟩
  rw [HZ.out] at HDN ⊢
  clear r1 r2 h1 h2 hyx HZ
  generalize pcs x = l at *
  generalize pcs y = r at *
  go_enter Tryz.func123, Tryz.ntmps123
  go_wp2_with fail
  go_loopw [5, 6, 7] (fun ov bv iv wr => ∃ (k bo : Nat) (o : List Nat), k ≤ l.length ∧ iv = .int .i64 k ∧ bv = .int .i64 bo ∧ wr.ownsRow w.heap.size 3 1 ov o.length (is (nI o)) ∧ Box (MinTo l r k bo o) ∧ Below w.heap.size w wr) (fun _ _ iv _ => l.length - (intOf iv).toNat)
  case atStart => exact ⟨0, 0, [], Nat.zero_le _, rfl, rfl, World.ownsRow_nil _ _ _ _, ⟨minTo_start l r⟩, Below.refl _ _⟩
  case round =>
    obtain ⟨k, bo, o, hk, rfl, rfl, hown, HM, hbw⟩ := hrel
    have HO := Lib.hid hown
    have hbo := HM.out.bol
    have holn : o.length ≤ l.length := by rw [HM.out.len]; exact hk
    clear hown
    by_cases hlt : k < l.length
    · obtain ⟨ad1, rfl, _, hca⟩ := (R1.out.below hbw (Nat.le_refl _)).n_at (k := k) hlt
      have ha9 := pcs_getD HP1.out k
      have hb9 := pcs_getD HP2.out k
      have HST : Box (∀ bo2 v : Nat, v < 1000000000 → bo2 ≤ 1 → v + bo + r[k]?.getD 0 = l[k]?.getD 0 + bo2 * 1000000000 → MinTo l r (k + 1) bo2 (o ++ [v])) := ⟨fun bo2 v h1 h2 h3 => minTo_step HM.out _ _ bo2 v rfl rfl h1 h2 h3⟩
      by_cases hkr : k < r.length
      · obtain ⟨ad2, rfl, _, hcb⟩ := (R2.out.below hbw (Nat.le_refl _)).n_at (k := k) hkr
        generalize l[k]?.getD 0 = a at *
        generalize r[k]?.getD 0 = b at *
        have hk0 : (0 : Int) ≤ (k : Int) := by omega
        have hkl : (k : Int) < (l.length : Int) := by omega
        have hkr2 : (k : Int) < (r.length : Int) := by omega
        by_cases hneg : a < bo + b
        · have HN : Box (MinTo l r (k + 1) 1 (o ++ [a + 1000000000 - bo - b])) := ⟨HST.out 1 _ (by omega) (by omega) (by omega)⟩
          have hd : (a : Int) - (bo : Int) - (b : Int) < 0 := by omega
          have HV : Box ((a : Int) - (bo : Int) - (b : Int) + 1000000000 = ((a + 1000000000 - bo - b : Nat) : Int)) := ⟨by omega⟩
          clear HST
          go_wp2_with (at_builtin; refine wpList_append_own _ rfl _ _ _ rfl w.heap.size 3 i0 (.int .i64 0) 1 8 Tryz.underlying28 hi0 hz0 hz1 hz2 rfl (by decide) _ _ _ rfl (HO.out.alloc _) ⟨wr.heap.size, 0, Option.none⟩ 1 1 [_] rfl rfl (cell_one_new _ _ _) (by intro u hu; simp at hu; subst hu; rfl) (by unfold maxLen; omega) (by omega) (by have := hbw.size; simp; omega) ?_; intro v3 w3 hown3 hg3 _)
          go_wp2
          go_roundw
          case rel =>
            refine ⟨k + 1, 1, o ++ [a + 1000000000 - bo - b], by omega, by go_num, rfl, ?_, HN, ?_⟩
            · rw [is_snoc_n _ _ _ HV.out, List.length_append]; exact hown3
            · exact (hbw.trans (((Below.refl _ _).alloc (Nat.le_refl _) _).mono hbw.size)).grown hg3 (by have := hbw.size; simp; omega) (fun k hk => (HO.out.lt k hk).1)
          case measure => simp [intOf]; omega
        · have HN : Box (MinTo l r (k + 1) 0 (o ++ [a - bo - b])) := ⟨HST.out 0 _ (by omega) (by omega) (by omega)⟩
          have hd : ¬ (a : Int) - (bo : Int) - (b : Int) < 0 := by omega
          have HV : Box ((a : Int) - (bo : Int) - (b : Int) = ((a - bo - b : Nat) : Int)) := ⟨by omega⟩
          clear HST
          go_wp2_with (at_builtin; refine wpList_append_own _ rfl _ _ _ rfl w.heap.size 3 i0 (.int .i64 0) 1 8 Tryz.underlying28 hi0 hz0 hz1 hz2 rfl (by decide) _ _ _ rfl (HO.out.alloc _) ⟨wr.heap.size, 0, Option.none⟩ 1 1 [_] rfl rfl (cell_one_new _ _ _) (by intro u hu; simp at hu; subst hu; rfl) (by unfold maxLen; omega) (by omega) (by have := hbw.size; simp; omega) ?_; intro v3 w3 hown3 hg3 _)
          go_wp2
          go_roundw
          case rel =>
            refine ⟨k + 1, 0, o ++ [a - bo - b], by omega, by go_num, rfl, ?_, HN, ?_⟩
            · rw [is_snoc_n _ _ _ HV.out, List.length_append]; exact hown3
            · exact (hbw.trans (((Below.refl _ _).alloc (Nat.le_refl _) _).mono hbw.size)).grown hg3 (by have := hbw.size; simp; omega) (fun k hk => (HO.out.lt k hk).1)
          case measure => simp [intOf]; omega
      · have hb0 : r[k]?.getD 0 = 0 := by rw [List.getElem?_eq_none (by omega)]; rfl
        rw [hb0] at HST
        clear hb0 hb9
        generalize l[k]?.getD 0 = a at *
        have hk0 : (0 : Int) ≤ (k : Int) := by omega
        have hkl : (k : Int) < (l.length : Int) := by omega
        by_cases hneg : a < bo
        · have HN : Box (MinTo l r (k + 1) 1 (o ++ [a + 1000000000 - bo])) := ⟨HST.out 1 _ (by omega) (by omega) (by omega)⟩
          have hd : (a : Int) - (bo : Int) < 0 := by omega
          have HV : Box ((a : Int) - (bo : Int) + 1000000000 = ((a + 1000000000 - bo : Nat) : Int)) := ⟨by omega⟩
          clear HST
          go_wp2_with (at_builtin; refine wpList_append_own _ rfl _ _ _ rfl w.heap.size 3 i0 (.int .i64 0) 1 8 Tryz.underlying28 hi0 hz0 hz1 hz2 rfl (by decide) _ _ _ rfl (HO.out.alloc _) ⟨wr.heap.size, 0, Option.none⟩ 1 1 [_] rfl rfl (cell_one_new _ _ _) (by intro u hu; simp at hu; subst hu; rfl) (by unfold maxLen; omega) (by omega) (by have := hbw.size; simp; omega) ?_; intro v3 w3 hown3 hg3 _)
          go_wp2
          go_roundw
          case rel =>
            refine ⟨k + 1, 1, o ++ [a + 1000000000 - bo], by omega, by go_num, rfl, ?_, HN, ?_⟩
            · rw [is_snoc_n _ _ _ HV.out, List.length_append]; exact hown3
            · exact (hbw.trans (((Below.refl _ _).alloc (Nat.le_refl _) _).mono hbw.size)).grown hg3 (by have := hbw.size; simp; omega) (fun k hk => (HO.out.lt k hk).1)
          case measure => simp [intOf]; omega
        · have HN : Box (MinTo l r (k + 1) 0 (o ++ [a - bo])) := ⟨HST.out 0 _ (by omega) (by omega) (by omega)⟩
          have hd : ¬ (a : Int) - (bo : Int) < 0 := by omega
          have HV : Box ((a : Int) - (bo : Int) = ((a - bo : Nat) : Int)) := ⟨by omega⟩
          clear HST
          go_wp2_with (at_builtin; refine wpList_append_own _ rfl _ _ _ rfl w.heap.size 3 i0 (.int .i64 0) 1 8 Tryz.underlying28 hi0 hz0 hz1 hz2 rfl (by decide) _ _ _ rfl (HO.out.alloc _) ⟨wr.heap.size, 0, Option.none⟩ 1 1 [_] rfl rfl (cell_one_new _ _ _) (by intro u hu; simp at hu; subst hu; rfl) (by unfold maxLen; omega) (by omega) (by have := hbw.size; simp; omega) ?_; intro v3 w3 hown3 hg3 _)
          go_wp2
          go_roundw
          case rel =>
            refine ⟨k + 1, 0, o ++ [a - bo], by omega, by go_num, rfl, ?_, HN, ?_⟩
            · rw [is_snoc_n _ _ _ HV.out, List.length_append]; exact hown3
            · exact (hbw.trans (((Below.refl _ _).alloc (Nat.le_refl _) _).mono hbw.size)).grown hg3 (by have := hbw.size; simp; omega) (fun k hk => (HO.out.lt k hk).1)
          case measure => simp [intOf]; omega
    · obtain rfl : k = l.length := by omega
      have HV : Box (pv o = z) := ⟨HDN.out _ _ HM.out⟩
      have HPO : Box (Pcs o) := ⟨HM.out.pcs⟩
      have ht := TRow.of_own (x := nI o) (by rw [nI_len]; exact HO.out)
      obtain ⟨A3, c3, e3, _⟩ := ht.isRow
      rw [nI_len] at e3
      subst e3
      have HT := Lib.hid ht
      have HAP := Lib.hid (own_apart HO.out)
      clear ht HM HDN
      go_wp2_with fail
      go_ret
      exact ⟨⟨A3, c3, o, rfl, HT.out, HPO.out, HV.out, HAP.out.1, HAP.out.2⟩, hbw⟩

end Go.Proofs.YtaiglcbgllnciaaGreatDoor

namespace Go.Proofs.YtaiglcbgllnciaaGreatDoor
open Go.RowKit Go.Lib

/-- What the outer loop of MulW has reached. -/
structure MulOut (l r : List Nat) (k : Nat) (o : List Nat) : Prop where
  len : o.length = l.length + r.length + 1
  pcs : Pcs o
  val : pv o = pv (l.take k) * pv r
  zero : ∀ j, k + r.length ≤ j → o[j]?.getD 0 = 0
theorem MulOut.start (l r : List Nat) : MulOut l r 0 (List.replicate (l.length + r.length + 1) 0) :=
  ⟨by simp, fun x hx => by rw [List.eq_of_mem_replicate hx]; omega, by rw [pv_zeros _ (fun x hx => List.eq_of_mem_replicate hx)]; simp [pv],
   fun j _ => by rw [List.getElem?_replicate]; split <;> rfl⟩
theorem pv_pad0 (r : List Nat) (t : Nat) (h : r.length ≤ t) : pv ((r ++ [0]).take t) = pv r := by
  by_cases h1 : t = r.length
  · rw [h1, List.take_left' rfl]
  · rw [List.take_of_length_le (by simp; omega), pv_append]; simp [pv]
theorem MulOut.step {l r : List Nat} {k t : Nat} {out o : List Nat} (h : MulOut l r k out) (a : Nat) (ha : l[k]?.getD 0 = a) (hk : k < l.length) (hi : TimesIn out a k (r ++ [0]) t 0 o) (h1 : r.length ≤ t) (h2 : t ≤ r.length + 1) : MulOut l r (k + 1) o := by
  refine ⟨by rw [hi.len, h.len], hi.pcs, ?_, fun j hj => ?_⟩
  · have e := hi.val
    rw [pv_pad0 r t h1, h.val] at e
    rw [pv_take_succ l k hk, ha, Nat.add_mul]
    have e2 : a * pv r * 1000000000 ^ k = 1000000000 ^ k * a * pv r := by rw [Nat.mul_comm (a * pv r), Nat.mul_assoc]
    omega
  · rw [hi.same j (by omega)]
    exact h.zero j (by omega)
theorem pad_get (r : List Nat) (t : Nat) : (r ++ [0])[t]?.getD 0 = r[t]?.getD 0 := by
  by_cases h : t < r.length
  · rw [List.getElem?_append_left h]
  · rw [List.getElem?_append_right (by omega), List.getElem?_eq_none (by omega : r.length ≤ t)]
    by_cases h2 : t - r.length = 0
    · rw [h2]; rfl
    · rw [List.getElem?_eq_none (by simp; omega)]

theorem TRow.of_cells {w : World} {g n : Nat} {x : List Int} (h : Cells w g 3 (is x)) (hn : x.length = n) (hm : n ≤ maxLen) : TRow w (.slice (some ⟨g, 0, Option.none⟩) n n) x := by
  subst hn
  refine ⟨_, _, rfl, Nat.le_refl _, hm, fun _ => ⟨g, 0, _, _, rfl, h, fun k hk => ?_⟩⟩
  rw [Nat.zero_add, h.cell k]
  unfold is
  rw [List.getElem?_map, List.getElem?_eq_getElem hk]
  rfl
theorem made_is (n : Nat) : (madeCells (Value.int .i64 0).cells (n * 1)).toList = is (nI (List.replicate n 0)) := by
  unfold madeCells is nI Value.cells
  apply List.ext_getElem
  · simp
  · intro i h1 h2
    simp [Nat.mod_one]
theorem is_get (o : List Nat) (k : Nat) (h : k < o.length) : (is (nI o))[k]? = some (.int .i64 ((o[k]?.getD 0 : Nat) : Int)) := by
  unfold is nI
  rw [List.getElem?_map, List.getElem?_map, List.getElem?_eq_getElem h]
  rfl

set_option maxRecDepth 100000 in
set_option maxHeartbeats 4000000 in
theorem mulW_any (b1 b2 : Bool) (v1 v2 : Value) (x y : Nat) (w : World) (h1 : TRow w v1 (pcsI x)) (h2 : TRow w v2 (pcsI y)) (hx : (pcs x).length ≤ 100000) (hy : (pcs y).length ≤ 100000) :
    Calls Tryz.prog 59 #[.agg #[.bool b1, v1], .agg #[.bool b2, v2]] w fun e w' => (∃ A c, e = .returned (.agg #[.bool ((b1 != b2) && decide (0 < x * y)), .slice A (pcs (x * y)).length c]) ∧ TRow w' (.slice A (pcs (x * y)).length c) (pcsI (x * y))) ∧ Below w.heap.size w w' := by
  obtain ⟨i0, hi0, hz0, hz1, hz2⟩ := info_parts Tryz.info_int
  obtain ⟨A1, c1, rfl, _, _, r1⟩ := h1.isRow
  obtain ⟨A2, c2, rfl, _, _, r2⟩ := h2.isRow
  rw [pcsI_len] at r1 r2 ⊢
  rw [pcsI_len]
  have HP1 : Box (Pcs (pcs x)) := ⟨pcs_lt x⟩
  have HP2 : Box (Pcs (pcs y)) := ⟨pcs_lt y⟩
  have HV : Box (∀ o, MulOut (pcs x) (pcs y) (pcs x).length o → pv o = x * y) := ⟨fun o h => by rw [h.val, List.take_of_length_le (Nat.le_refl _), pv_pcs, pv_pcs]⟩
  obtain ⟨z, HZ⟩ : ∃ z, Box (x * y = z) := ⟨_, ⟨rfl⟩⟩
  rw [HZ.out] at HV ⊢
  change Row w w.heap.size 1 A1 (pcs x).length (is (nI (pcs x))) at r1
  change Row w w.heap.size 1 A2 (pcs y).length (is (nI (pcs y))) at r2
  have R1 := Lib.hid r1
  have R2 := Lib.hid r2
  clear r1 r2 h1 h2 HZ
  generalize pcs x = l at *
  generalize pcs y = r at *
  obtain ⟨n, hn⟩ : ∃ n, l.length = n := ⟨_, rfl⟩
  obtain ⟨m, hm⟩ : ∃ m, r.length = m := ⟨_, rfl⟩
  rw [hn] at hx R1 HV ⊢
  rw [hm] at hy R2 ⊢
  have HL := Lib.hid hn
  have HR := Lib.hid hm
  clear hn hm
  go_enter Tryz.func59, Tryz.ntmps59
  go_wp2_with (at_make; refine wpList_make_full _ rfl _ _ _ rfl (w.heap.size + 1 + 1 + 1) 3 i0 (.int .i64 0) 1 Tryz.underlying28 hi0 hz0 hz1 .i64 .i64 _ _ (n + m + 1) rfl rfl (by omega) (by omega) (by rw [hz2]; omega) (by unfold maxLen; omega) (by simp) ?_; intro W0 hown hg1)
  obtain ⟨W3, hW3⟩ : ∃ W3, W3 = ((w.alloc (.cells #[.bool b1, .slice A1 n c1] 93)).alloc (.cells #[.bool b2, .slice A2 m c2] 93)).alloc (.cells #[.bool false, .slice Option.none 0 0] 93) := ⟨_, rfl⟩
  have C1 : Cells W3 w.heap.size 93 [.bool b1, .slice A1 n c1] := by rw [hW3]; exact ((Cells.new w _ _).alloc _).alloc _
  have C2 : Cells W3 (w.heap.size + 1) 93 [.bool b2, .slice A2 m c2] := by
    have h := Cells.new (w.alloc (.cells #[.bool b1, .slice A1 n c1] 93)) 93 #[.bool b2, .slice A2 m c2]
    rw [World.size_alloc] at h
    rw [hW3]; exact h.alloc _
  have CR : Cells W3 (w.heap.size + 1 + 1) 93 [.bool false, .slice Option.none 0 0] := by
    have h := Cells.new ((w.alloc (.cells #[.bool b1, .slice A1 n c1] 93)).alloc (.cells #[.bool b2, .slice A2 m c2] 93)) 93 #[.bool false, .slice Option.none 0 0]
    rw [World.size_alloc, World.size_alloc] at h
    rw [hW3]; exact h
  have hbw3 : Below w.heap.size w W3 := by rw [hW3]; exact (((Below.refl _ _).alloc (Nat.le_refl _) _).alloc (by simp) _).alloc (by simp; omega) _
  have HSZ : Box (W3.heap.size = w.heap.size + 1 + 1 + 1) := ⟨by rw [hW3]; simp⟩
  rw [← hW3] at hown hg1
  clear hW3
  simp only [HSZ.out] at hown
  have hc0 : Cells W0 (w.heap.size + 1 + 1 + 1) 3 (is (nI (List.replicate (n + m + 1) 0))) := Cells.of_full (by rw [← made_is]; exact hown)
  have hb0 : Below W3.heap.size W3 W0 := (Below.refl _ _).grown hg1 (Nat.le_refl _) (by simp)
  replace C1 := Lib.hid (C1.below hb0 C1.lt)
  replace C2 := Lib.hid (C2.below hb0 C2.lt)
  replace CR := Lib.hid (CR.below hb0 CR.lt)
  have HBW := Lib.hid (hbw3.trans (hb0.mono hbw3.size))
  have HSZ2 : Box (W3.heap.size ≤ W0.heap.size) := ⟨hb0.size⟩
  have HC0 := Lib.hid hc0
  clear hown hb0 hbw3 hc0
  rw [HSZ.out] at HSZ2
  clear HSZ hg1 W3
  obtain ⟨g, hg⟩ : ∃ g, w.heap.size + 1 + 1 + 1 = g := ⟨_, rfl⟩
  rw [hg] at HSZ2 HC0
  rw [hg]
  have hgw : w.heap.size + 2 < g := by omega
  clear hg
  go_loopw [6] (fun iv wr => ∃ (k : Nat) (o : List Nat), k ≤ n ∧ iv = .int .i64 k ∧ Box (MulOut l r k o) ∧ Cells wr g 3 (is (nI o)) ∧ Below g W0 wr) (fun iv _ => n - (intOf iv).toNat)
  case atStart => exact ⟨0, _, Nat.zero_le _, rfl, ⟨by have h := MulOut.start l r; rw [HL.out, HR.out] at h; exact h⟩, HC0.out, Below.refl _ _⟩
  case round =>
    clear HC0
    obtain ⟨k, o, hk, rfl, HM, hcl, hbk⟩ := hrel
    have hbx := HBW.out.trans (hbk.mono (by omega))
    have D1 := C1.out.below hbk (by omega)
    have D2 := C2.out.below hbk (by omega)
    have p0 := D1.cell 0
    have p1 := D1.cell 1
    have q0 := D2.cell 0
    have q1 := D2.cell 1
    simp only [List.getElem?_cons_succ, List.getElem?_cons_zero] at p0 p1 q0 q1
    clear D1 D2
    by_cases hlt : k < n
    · obtain ⟨ad1, rfl, _, _⟩ := (R1.out.below hbx (Nat.le_refl _)).n_at hlt
      have hal : l[k]?.getD 0 < 1000000000 := pcs_getD HP1.out k
      obtain ⟨a, ha⟩ : ∃ a, l[k]?.getD 0 = a := ⟨_, rfl⟩
      rw [ha] at hal
      have HA := Lib.hid ha
      have HCL := Lib.hid hcl
      have HBK := Lib.hid hbk
      clear ha hbx hcl hbk
      go_wp2
      obtain ⟨wo, rfl⟩ : ∃ wo : World, wo = wr := ⟨_, rfl⟩
      go_loopw [7, 8] (fun cv jv wr => ∃ (t cy : Nat) (o2 : List Nat), t ≤ m + 1 ∧ jv = .int .i64 t ∧ cv = .int .i64 cy ∧ Box (t = m + 1 → cy = 0) ∧ Box (TimesIn o a k (r ++ [0]) t cy o2) ∧ Cells wr g 3 (is (nI o2)) ∧ Below g W0 wr) (fun _ jv _ => m + 1 - (intOf jv).toNat)
      case atStart => exact ⟨0, 0, o, Nat.zero_le _, rfl, rfl, ⟨fun _ => rfl⟩, ⟨times_in_start _ _ _ _ HM.out.pcs⟩, HCL.out, HBK.out⟩
      case round =>
        clear HCL HBK p0 p1 q0 q1
        obtain ⟨t, cy, o2, htm, rfl, rfl, HT0, HTI, hcl, hbk⟩ := hrel
        have hcy := HTI.out.small
        have HO : Box (o2.length = n + m + 1) := ⟨by rw [HTI.out.len, HM.out.len, HL.out, HR.out]⟩
        have hbx := HBW.out.trans (hbk.mono (by omega))
        have D1 := C1.out.below hbk (by omega)
        have D2 := C2.out.below hbk (by omega)
        have p0 := D1.cell 0
        have p1 := D1.cell 1
        have q0 := D2.cell 0
        have q1 := D2.cell 1
        simp only [List.getElem?_cons_succ, List.getElem?_cons_zero] at p0 p1 q0 q1
        clear D1 D2
        by_cases htl : t < m
        · obtain ⟨_, e1, _, hca⟩ := (R1.out.below hbx (Nat.le_refl _)).n_at hlt
          injection e1 with e1
          subst e1
          obtain ⟨ad2, rfl, _, hcb⟩ := (R2.out.below hbx (Nat.le_refl _)).n_at htl
          rw [HA.out] at hca
          have hbl : r[t]?.getD 0 < 1000000000 := pcs_getD HP2.out t
          have hco := hcl.cell (k + t)
          rw [is_get o2 (k + t) (by rw [HO.out]; omega)] at hco
          have hxl : o2[k + t]?.getD 0 < 1000000000 := pcs_getD HTI.out.pcs _
          have HST : Box (TimesIn o a k (r ++ [0]) (t + 1) ((cy + (o2[k + t]?.getD 0 + a * r[t]?.getD 0)) / 1000000000) (o2.set (k + t) ((cy + (o2[k + t]?.getD 0 + a * r[t]?.getD 0)) % 1000000000))) := ⟨times_in_step HTI.out _ _ rfl (pad_get r t) (by rw [List.length_append, HR.out]; omega) (by rw [HM.out.len, HL.out, HR.out]; omega) hal hbl⟩
          generalize r[t]?.getD 0 = b at *
          generalize o2[k + t]?.getD 0 = xv at *
          have hfo := hcl.free (k + t)
          have hab : a * b ≤ 999999999 * 999999999 := Nat.mul_le_mul (by omega) (by omega)
          have hab1 : (a : Int) * (b : Int) ≤ 999999998000000001 := by
            have : ((a * b : Nat) : Int) ≤ 999999998000000001 := by omega
            rwa [Int.natCast_mul] at this
          have hab0 : 0 ≤ (a : Int) * (b : Int) := by rw [← Int.natCast_mul]; omega
          have hk0 : (0 : Int) ≤ (k : Int) := by omega
          have hk1 : (k : Int) < (n : Int) := by omega
          have ht0 : (0 : Int) ≤ (t : Int) := by omega
          have ht1 : (t : Int) < (m : Int) := by omega
          have HCL := Lib.hid hcl
          have HBK := Lib.hid hbk
          clear hab hbx hcl hbk
          go_wp2
          go_quiet (fail)
          go_wp2
          go_roundw
          case rel =>
            refine ⟨t + 1, _, _, by omega, by go_num, ?_, ⟨fun h => by omega⟩, HST, ?_, (below_drewN HBK.out _).setCell (Nat.le_refl _) _⟩
            · go_num
            · exact cells_set_n (HCL.out.drewN _) _ _ _ (by simp [Int.add_assoc])
          case measure => simp [intOf]; omega
        · by_cases h0 : 0 < cy
          · obtain rfl : t = m := by
              have := HT0.out
              omega
            have hx0 : o2[k + t]?.getD 0 = 0 := by rw [HTI.out.same (k + t) (Nat.le_refl _)]; exact HM.out.zero (k + t) (by rw [HR.out]; exact Nat.le_refl _)
            have hco := hcl.cell (k + t)
            rw [is_get o2 (k + t) (by rw [HO.out]; omega), hx0] at hco
            have hfo := hcl.free (k + t)
            have HST : Box (TimesIn o a k (r ++ [0]) (t + 1) 0 (o2.set (k + t) cy)) := ⟨by
              have h := times_in_step HTI.out 0 0 hx0 (by rw [pad_get, List.getElem?_eq_none (by rw [HR.out]; exact Nat.le_refl _)]; rfl) (by rw [List.length_append, HR.out]; simp) (by rw [HM.out.len, HL.out, HR.out]; omega) hal (by omega)
              simp only [Nat.mul_zero, Nat.add_zero, Nat.div_eq_of_lt hcy, Nat.mod_eq_of_lt hcy] at h
              exact h⟩
            have hk0 : (0 : Int) ≤ (k : Int) := by omega
            have hk1 : (k : Int) < (n : Int) := by omega
            have ht0 : (0 : Int) ≤ (t : Int) := by omega
            have hcc : (0 : Int) < (cy : Int) := by omega
            have hm1 : (cy : Int) % 1000000000 = (cy : Int) := by omega
            have hm2 : (cy : Int) / 1000000000 = 0 := by omega
            have HCL := Lib.hid hcl
            have HBK := Lib.hid hbk
            clear hx0 hbx hcl hbk
            go_wp2
            go_roundw
            case rel =>
              refine ⟨t + 1, 0, _, by omega, by go_num, ?_, ⟨fun _ => rfl⟩, HST, ?_, (HBK.out).setCell (Nat.le_refl _) _⟩
              · go_num
              · exact cells_set_n HCL.out _ _ _ (by simp)
            case measure => (simp [intOf]; try omega)
          · obtain rfl : cy = 0 := by omega
            have HN : Box (MulOut l r (k + 1) o2) := ⟨HM.out.step a HA.out (by rw [HL.out]; exact hlt) HTI.out (by rw [HR.out]; omega) (by rw [HR.out]; omega)⟩
            have ht0 : ¬ (t : Int) < (m : Int) := by omega
            have HCL := Lib.hid hcl
            have HBK := Lib.hid hbk
            clear hbx hcl hbk
            go_wp2
            go_roundw
            case rel => exact ⟨k + 1, o2, by omega, by go_num, HN, HCL.out, HBK.out⟩
            case measure => simp [intOf]; omega
    · obtain rfl : k = n := by omega
      have HVO : Box (pv o = z) := ⟨HV.out o HM.out⟩
      have hol : o.length = k + m + 1 := by rw [HM.out.len, HL.out, HR.out]
      have ht := TRow.of_cells (n := k + m + 1) hcl (by rw [nI_len]; exact hol) (by unfold maxLen; omega)
      have HTR := Lib.hid (trim03_pcs (b1 != b2) _ _ _ o wr hol ht HM.out.pcs)
      rw [HVO.out] at HTR
      have HCR := Lib.hid (CR.out.below hbk (by omega))
      have HBX := Lib.hid hbx
      clear hbx hcl hbk ht hol HVO HV HM
      go_wp2_with fail
      refine HTR.out.mono ?_
      rintro e w5 ⟨rfl, ht5, hb5⟩
      have HT5 := Lib.hid ht5
      have CR5 := HCR.out.below hb5 HCR.out.lt
      have HCR5 := Lib.hid CR5
      have r0 := CR5.cell 0
      have r1 := CR5.cell 1
      have s0 := CR5.free 0
      have s1 := CR5.free 1
      simp only [List.getElem?_cons_succ, List.getElem?_cons_zero] at r0 r1
      have hbn := HBX.out.trans (hb5.mono HBX.out.size)
      clear hb5 CR5 ht5 p0 p1 q0 q1
      go_wp2_with fail
      refine bodyPost_ret (v := .agg #[.bool ((b1 != b2) && decide (0 < z)), .slice (some ⟨g, 0, Option.none⟩) (pcs z).length (k + m + 1)]) (by simp [results, Tryz.results59, go_sem, r0, r1]) rfl ⟨⟨_, _, rfl, ?_⟩, ?_⟩
      · exact (HT5.out.set HCR5.out (by decide) _).set (HCR5.out.set 0 _) (by decide) _
      · exact (hbn.setCell (by show w.heap.size ≤ w.heap.size + 1 + 1; omega) _).setCell (by show w.heap.size ≤ w.heap.size + 1 + 1; omega) _

end Go.Proofs.YtaiglcbgllnciaaGreatDoor

namespace Go.Proofs.YtaiglcbgllnciaaGreatDoor
open Go.RowKit Go.Lib

theorem pv_one (d : Nat) : pv [d] = d := by simp [pv]

set_option maxRecDepth 100000 in
set_option maxHeartbeats 1000000 in
theorem times03_any (v : Value) (y d : Nat) (w : World) (hv : TRow w v (pcsI y)) (hd : d < 1000000000) (hy : (pcs y).length ≤ 100000) :
    Calls Tryz.prog 122 #[v, .int .i64 d] w fun e w' => (∃ A c, e = .returned (.slice A (pcs (y * d)).length c) ∧ TRow w' (.slice A (pcs (y * d)).length c) (pcsI (y * d))) ∧ Below w.heap.size w w' := by
  have hpd : Pcs [d] := fun x hx => by rw [List.mem_singleton] at hx; omega
  have hba : Below w.heap.size w (w.alloc (.cells #[.int .i64 (d : Int)] 3)) := (Below.refl _ _).alloc (Nat.le_refl _) _
  have ht : TRow (w.alloc (.cells #[.int .i64 (d : Int)] 3)) (.slice (some ⟨w.heap.size, 0, Option.none⟩) 1 1) (nI [d]) := TRow.of_cells (Cells.new w 3 #[.int .i64 (d : Int)]) rfl (by unfold maxLen; omega)
  have HTR := Lib.hid (trim03_pcs false _ _ 1 [d] _ rfl ht hpd)
  rw [pv_one, Bool.false_and] at HTR
  have hpl : (pcs d).length ≤ 100000 := by
    have h := pcs_len_le 1 d (by simpa using hd)
    omega
  have HM := Lib.hid (fun v2 W h1 h2 => mulW_any false false v v2 y d W h1 h2 hy hpl)
  rw [show ((false != false) && decide (0 < y * d)) = false from rfl] at HM
  have HV := Lib.hid hv
  obtain ⟨A1, c1, rfl, _⟩ := hv
  rw [pcsI_len] at HM HV ⊢
  have HBA := Lib.hid hba
  obtain ⟨z, hz⟩ : ∃ z, y * d = z := ⟨_, rfl⟩
  rw [hz] at HM ⊢
  clear hba ht hpd hd hy hpl hz
  generalize (pcs y).length = n at *
  have hfd : ∀ (W : World) (a b : Value), (Instr.field 93 (.agg #[a, b]) 1).run Tryz.prog W = .ok b W := fun _ _ _ => by kernel_rfl
  go_enter Tryz.func122, Tryz.ntmps122
  go_wp2_with fail
  refine HTR.out.mono ?_
  rintro e w5 ⟨rfl, ht5, hb5⟩
  have hbn := HBA.out.trans (hb5.mono HBA.out.size)
  have HT5 := Lib.hid ht5
  have HBN := Lib.hid hbn
  clear ht5 hb5 hbn
  go_wp2_with fail
  refine (HM.out _ _ (HV.out.below HBN.out) HT5.out).mono ?_
  rintro e w6 ⟨⟨A, c, rfl, ht6⟩, hb6⟩
  have HT6 := Lib.hid ht6
  have hbn := HBN.out.trans (hb6.mono HBN.out.size)
  clear ht6 hb6
  go_wp2_with fail
  go_ret
  exact ⟨⟨A, c, rfl, HT6.out⟩, hbn⟩

end Go.Proofs.YtaiglcbgllnciaaGreatDoor

namespace Go.Proofs.YtaiglcbgllnciaaGreatDoor
open Go.RowKit Go.Lib

/-- What divide has reached: the pieces from k on are divided. -/
structure DivTo (l : List Nat) (y k : Nat) (o : List Nat) (rr : Nat) : Prop where
  len : o.length = l.length
  pcs : Pcs o
  small : rr < y
  val : pv (o.drop k) * y + rr = pv (l.drop k)
  zero : ∀ j, j < k → o[j]?.getD 0 = 0
theorem DivTo.start (l : List Nat) (y : Nat) (hy : 0 < y) : DivTo l y l.length (List.replicate l.length 0) 0 :=
  ⟨by simp, fun x hx => by rw [List.eq_of_mem_replicate hx]; omega, hy, by rw [List.drop_of_length_le (by simp), List.drop_of_length_le (Nat.le_refl _)]; simp [pv], fun j _ => by rw [List.getElem?_replicate]; split <;> rfl⟩
theorem drop_set_self (o : List Nat) (j d : Nat) : (o.set j d).drop (j + 1) = o.drop (j + 1) := by
  rw [List.drop_set]
  simp
theorem DivTo.step {l o : List Nat} {y j rr : Nat} (h : DivTo l y (j + 1) o rr) (hj : j < l.length) (a d r2 : Nat) (ha : l[j]?.getD 0 = a) (hd : d < 1000000000) (he : d * y + r2 = a + 1000000000 * rr) (hr : r2 < y) : DivTo l y j (o.set j d) r2 := by
  have hjo : j < o.length := by rw [h.len]; exact hj
  refine ⟨by simp [h.len], pcs_set h.pcs hd, hr, ?_, fun i hi => ?_⟩
  · rw [pv_drop _ _ (by simp; exact hjo), drop_set_self, pv_drop _ _ hj, ha]
    have e := h.val
    have e2 : (o.set j d)[j]?.getD 0 = d := by rw [List.getElem?_set_self hjo]; rfl
    rw [e2]
    generalize pv (o.drop (j + 1)) = Q at *
    generalize pv (l.drop (j + 1)) = P at *
    rw [← e, Nat.add_mul, Nat.mul_add]
    have e3 : 1000000000 * Q * y = 1000000000 * (Q * y) := Nat.mul_assoc _ _ _
    rw [e3]
    omega
  · rw [List.getElem?_set_ne (by omega)]
    exact h.zero i (by omega)
theorem DivTo.skip {l o : List Nat} {y j rr : Nat} (h : DivTo l y (j + 1) o rr) (hj : j < l.length) (a : Nat) (ha : l[j]?.getD 0 = a) (hr : a + 1000000000 * rr < y) : DivTo l y j o (a + 1000000000 * rr) := by
  have hjo : j < o.length := by rw [h.len]; exact hj
  have h2 := h.step hj a 0 (a + 1000000000 * rr) ha (by omega) (by omega) hr
  have e : o.set j 0 = o := by
    apply List.ext_getElem?
    intro i
    by_cases hi : j = i
    · subst hi
      rw [List.getElem?_set_self hjo]
      have := h.zero j (by omega)
      rw [List.getElem?_eq_getElem hjo] at this ⊢
      simpa using this.symm
    · rw [List.getElem?_set_ne hi]
  rw [e] at h2
  exact h2
theorem DivTo.done {x y rr : Nat} {o : List Nat} (h : DivTo (Go.Proofs.YtaiglcbgllnciaaGreatDoor.pcs x) y 0 o rr) : pv o = x / y ∧ rr = x % y := by
  have e := h.val
  rw [List.drop_zero, List.drop_zero, pv_pcs] at e
  have hy : 0 < y := by have := h.small; omega
  constructor
  · rw [← e, Nat.add_comm, Nat.mul_comm, Nat.add_mul_div_left _ _ hy, Nat.div_eq_of_lt h.small, Nat.zero_add]
  · rw [← e, Nat.add_comm, Nat.mul_comm, Nat.add_mul_mod_self_left, Nat.mod_eq_of_lt h.small]
theorem pv_cons (a : Nat) (l : List Nat) : pv (a :: l) = a + 1000000000 * pv l := rfl
theorem cmpN_lt {x y : Nat} (h : x < y) : cmpN x y = -1 := by unfold cmpN; rw [if_pos h]
theorem cmpN_ge {x y : Nat} (h : y ≤ x) : 0 ≤ cmpN x y := by unfold cmpN; rw [if_neg (by omega)]; split <;> decide
theorem cmpN_le {x y : Nat} (h : x ≤ y) : cmpN x y ≤ 0 := by
  unfold cmpN
  by_cases h1 : x < y
  · rw [if_pos h1]; decide
  · rw [if_neg h1, if_pos (by omega)]; decide
theorem cmpN_gt {x y : Nat} (h : y < x) : cmpN x y = 1 := by unfold cmpN; rw [if_neg (by omega), if_neg (by omega)]
theorem TRow.nil0 (w : World) : TRow w (.slice Option.none 0 0) [] := ⟨_, _, rfl, Nat.le_refl _, Nat.zero_le _, fun h => by simp at h⟩
theorem pcs_len_one {x : Nat} (h : (Go.Proofs.YtaiglcbgllnciaaGreatDoor.pcs x).length = 1) : 0 < x ∧ x < 1000000000 ∧ Go.Proofs.YtaiglcbgllnciaaGreatDoor.pcs x = [x] := by
  rcases Nat.eq_zero_or_pos x with h0 | h0
  · subst h0; rw [pcs_zero] at h; cases h
  · have hl := pv_lt _ (pcs_lt x)
    rw [pv_pcs, h] at hl
    refine ⟨h0, by simpa using hl, pcs_small h0 (by simpa using hl)⟩

/-- append of a row that may be nil, to a slice that the call owns. -/
theorem wpList_append_own_opt {P : Program} {w : World} {ops : Array Oper} {rest : List Oper} {o : Oper} {a : Act} {Q : Exit → Act → World → Prop} (hgd : o.guard = Option.none) (s x : Operand) (t : TypeId)
    (ho : o.op = .call { callee := .builtin .append, args := #[s, x], argTypes := #[t, t] })
    (base : Nat) (e : TypeId) (i : TypeInfo) (z : Value) (size bytes : Nat) (ht : P.underlying t = some (.slice e)) (hi : P.info? e = some i) (hz : i.zero = some z)
    (hsize : i.size = size) (hby : i.bytes = bytes) (hzs : z.cells.size = size) (hsz : 0 < size)
    (v : Value) (n : Nat) (xs : List Value) (hs : a.eval s = v) (hown : w.ownsRow base e size v n xs)
    (ao : Option Addr) (m c : Nat) (news : List Value) (hx : a.eval x = .slice ao m c) (hl : news.length = m * size) (hnone : ao = Option.none → m = 0 ∧ c = 0) (hnews : ∀ ad, ao = some ad → ∀ (j : Nat) u, news[j]? = some u → w.cell? (ad.add j) = some u) (h1 : ∀ u ∈ news, u.oneCell' = true)
    (h63 : n + m ≤ maxLen) (hbytes : (n + m) * bytes ≤ 140737488355328) (hbase : base ≤ w.heap.size)
    (h : ∀ v' w', w'.ownsRow base e size v' (n + m) (xs ++ news) → w.grownBy w' v.ownBlock → wpList P ops Q rest (a.put o.dst v') w') : wpList P ops Q (o :: rest) a w := by
  cases ao with
  | some ad => exact wpList_append_own w hgd s x t ho base e i z size bytes ht hi hz hsize hby hzs hsz v n xs hs hown ad m c news hx hl (hnews ad rfl) h1 h63 hbytes hbase fun v' w' h2 h3 _ => h v' w' h2 h3
  | none =>
    obtain ⟨rfl, rfl⟩ := hnone rfl
    have hn : news = [] := List.eq_nil_of_length_eq_zero (by simpa using hl)
    subst hn
    refine wpList_append_own_none hgd s x t ho base e i size ht hi v n xs hs hown hx (h v w ?_ ⟨rfl, rfl, rfl, Nat.le_refl _, fun _ _ _ => rfl⟩)
    rw [List.append_nil]
    exact hown
theorem TRow.cells_alloc {w : World} {A : Option Addr} {n c : Nat} {x : List Int} (h : TRow w (.slice A n c) x) (o : Obj) : ∀ ad, A = some ad → ∀ (j : Nat) u, (is x)[j]? = some u → (w.alloc o).cell? (ad.add j) = some u := by
  intro ad hA j u hu
  obtain ⟨A', c', e, _, _, hr⟩ := h.isRow
  injection e with e1 _ _
  subst e1
  obtain ⟨ad', e2, hb, hc⟩ := hr.get j u hu
  rw [hA] at e2
  injection e2 with e2
  subst e2
  exact (World.cell?_alloc_lt w o _ (by rw [add_block]; exact hb)).trans hc
theorem TRow.set_apart {w : World} {A : Option Addr} {n c : Nat} {x : List Int} (h : TRow w (.slice A n c) x) {g k : Nat} (hA : ∀ ad, A = some ad → g < ad.block) (u : Value) : TRow (w.setCell ⟨g, k, Option.none⟩ u) (.slice A n c) x := by
  obtain ⟨A', c', e, h1, h2, h3⟩ := h
  injection e with e1 e2 e3
  subst e1 e2 e3
  refine ⟨A, c, rfl, h1, h2, fun h0 => ?_⟩
  obtain ⟨g', o, cur, p, hA', hg, hc⟩ := h3 h0
  have hne := hA _ hA'
  refine ⟨g', o, cur, p, hA', (Below.heap_setCell _ _ _ _ (by show g' ≠ g; change g < g' at hne; omega)).trans hg, fun k hk => ?_⟩
  exact (World.cell?_setCell_far _ _ _ _ (by show g ≠ g'; change g < g' at hne; omega)).trans (hc k hk)
theorem TRow.one_cell {w : World} {A : Option Addr} {c : Nat} {z : Int} (h : TRow w (.slice A 1 c) [z]) : ∃ g o, A = some ⟨g, o, Option.none⟩ ∧ w.cell? ⟨g, o, Option.none⟩ = some (.int .i64 z) := by
  obtain ⟨A', c', e, _, _, h3⟩ := h
  injection e with e1 _ _
  subst e1
  obtain ⟨g, o, cur, p, hA, _, hc⟩ := h3 (by simp)
  exact ⟨g, o, hA, hc 0 (by simp)⟩
theorem TRow.none_zero {w : World} {n c : Nat} {x : List Int} (h : TRow w (.slice Option.none n c) x) : n = 0 := by
  obtain ⟨A, c', e, _, _, h0⟩ := h
  injection e with e1 e2 _
  subst e1
  rcases Nat.eq_zero_or_pos x.length with h1 | h1
  · rw [e2, h1]
  · obtain ⟨g, o, cur, p, hA, _⟩ := h0 h1
    cases hA

end Go.Proofs.YtaiglcbgllnciaaGreatDoor

namespace Go.Proofs.YtaiglcbgllnciaaGreatDoor
open Go.RowKit Go.Lib

theorem keep_alloc3 {w : World} {p : Addr} {v : Value} (h : w.cell? p = some v) (o : Obj) : (w.alloc o).cell? p = some v := (World.cell?_alloc_lt w o p (cell_lt h)).trans h
theorem keep_newd3 {w w' : World} {p : Addr} {v : Value} {o : Obj} (h : w.cell? p = some v) (hb : Below (w.heap.size + 1) (w.alloc o).drew w') : w'.cell? p = some v := (hb.cell (by have := cell_lt h; omega)).trans (keep_alloc3 h o)
theorem pcsI_zero : pcsI 0 = [] := by unfold pcsI; rw [pcs_zero]; rfl
set_option maxRecDepth 100000 in
set_option maxHeartbeats 16000000 in
theorem divide03_any (v1 v2 : Value) (x y : Nat) (w : World) (h1 : TRow w v1 (pcsI x)) (h2 : TRow w v2 (pcsI y)) (hy0 : 0 < y) (hx : (pcs x).length ≤ 50000) (hy : (pcs y).length ≤ 50000) :
    Calls Tryz.prog 86 #[v1, v2] w fun e w' => (∃ A c A2 c2, e = .returned (.tuple #[.slice A (pcs (x / y)).length c, .slice A2 (pcs (x % y)).length c2]) ∧ TRow w' (.slice A (pcs (x / y)).length c) (pcsI (x / y)) ∧ TRow w' (.slice A2 (pcs (x % y)).length c2) (pcsI (x % y))) ∧ Below w.heap.size w w' := by
  obtain ⟨i0, hi0, hz0, hz1, hz2⟩ := info_parts Tryz.info_int
  have hfd : ∀ (W : World) (a b : Value), (Instr.field 93 (.agg #[a, b]) 1).run Tryz.prog W = .ok b W := fun _ _ _ => by kernel_rfl
  obtain ⟨A1, c1, rfl, _, _, r1⟩ := h1.isRow
  have HY := Lib.hid h2
  obtain ⟨A2, c2, rfl, _⟩ := h2.isRow
  rw [pcsI_len] at r1 HY ⊢
  rw [pcsI_len]
  change Row w w.heap.size 1 A1 (pcs x).length (is (nI (pcs x))) at r1
  have R1 := Lib.hid r1
  have HP1 : Box (Pcs (pcs x)) := ⟨pcs_lt x⟩
  have HDN : Box (∀ o rr, DivTo (pcs x) y 0 o rr → pv o = x / y ∧ rr = x % y) := ⟨fun o rr h => h.done⟩
  have HST : Box (DivTo (pcs x) y (pcs x).length (List.replicate (pcs x).length 0) 0) := ⟨DivTo.start _ y hy0⟩
  have HXB : Box (∀ R, R < 1000000000 * y → (pcs R).length ≤ 60000) := ⟨fun R h => by
    have := pcs_mul_len 1000000000 y 60000 (by have : (pcs 1000000000).length ≤ 2 := pcs_len_le 2 _ (by decide); omega)
    exact Nat.le_trans (pcs_len_mono (Nat.le_of_lt h)) this⟩
  obtain ⟨q, hq⟩ : ∃ q, x / y = q := ⟨_, rfl⟩
  obtain ⟨rm, hrm⟩ : ∃ rm, x % y = rm := ⟨_, rfl⟩
  rw [hq, hrm] at HDN ⊢
  have HY0 : Box (0 < y) := ⟨hy0⟩
  obtain ⟨ny, hny⟩ : ∃ ny, (pcs y).length = ny := ⟨_, rfl⟩
  rw [hny] at HY ⊢
  have HNY : Box ((pcs y).length = ny) := ⟨hny⟩
  rw [hny] at hy
  clear r1 h1 h2 hq hrm hy0 hny
  generalize pcs x = l at *
  obtain ⟨n, hn⟩ : ∃ n, l.length = n := ⟨_, rfl⟩
  rw [hn] at R1 HST hx ⊢
  have HLN : Box (l.length = n) := ⟨hn⟩
  clear hn
  go_enter Tryz.func86, Tryz.ntmps86
  go_wp2_with (at_make; refine wpList_make_full _ rfl _ _ _ rfl w.heap.size 3 i0 (.int .i64 0) 1 Tryz.underlying28 hi0 hz0 hz1 .i64 .i64 _ _ n rfl rfl (by omega) (by omega) (by rw [hz2]; omega) (by unfold maxLen; omega) (Nat.le_refl _) ?_; intro W0 hown hg1)
  have hc0 : Cells W0 w.heap.size 3 (is (nI (List.replicate n 0))) := Cells.of_full (by rw [← made_is]; exact hown)
  have hb0 : Below w.heap.size w W0 := (Below.refl _ _).grown hg1 (Nat.le_refl _) (by simp)
  have HC0 := Lib.hid hc0
  clear hown hg1 hc0
  go_loopw [5, 6] (fun rv iv wr => ∃ (k : Nat) (o : List Nat) (rr : Nat) (A : Option Addr) (c : Nat), k ≤ n ∧ iv = .int .i64 ((k : Int) - 1) ∧ rv = .slice A (pcs rr).length c ∧ Box (A = Option.none → c = 0) ∧ Box (∀ ad, A = some ad → w.heap.size < ad.block) ∧ TRow wr (.slice A (pcs rr).length c) (pcsI rr) ∧ Box (DivTo l y k o rr) ∧ Cells wr w.heap.size 3 (is (nI o)) ∧ Below w.heap.size w wr) (fun _ iv _ => (intOf iv + 1).toNat)
  case atStart => exact ⟨n, _, 0, Option.none, 0, Nat.le_refl _, rfl, by rw [pcs_zero]; rfl, ⟨fun _ => rfl⟩, ⟨fun ad h => by cases h⟩, by rw [pcs_zero, pcsI_zero]; exact TRow.nil0 _, HST, HC0.out, hb0⟩
  case round =>
    clear HC0 hb0 HST
    obtain ⟨k, o, rr, AR, cr, hk, rfl, rfl, HAC, HAP, hrr, HD, hcl, hbw⟩ := hrel
    have HRR := Lib.hid hrr
    have HCL := Lib.hid hcl
    by_cases hk0 : 0 < k
    · obtain ⟨j, rfl⟩ : ∃ j, k = j + 1 := ⟨k - 1, by omega⟩
      have hjn : j < n := by omega
      obtain ⟨ad1, rfl, _, hca⟩ := (R1.out.below hbw (Nat.le_refl _)).n_at hjn
      have HBW := Lib.hid hbw
      have hj1 : (((j + 1 : Nat) : Int) - 1) = (j : Int) := by omega
      rw [hj1]
      have ha9 := pcs_getD HP1.out j
      obtain ⟨a, HA⟩ : ∃ a, Box (l[j]?.getD 0 = a) := ⟨_, ⟨rfl⟩⟩
      rw [HA.out] at hca ha9
      have hj0 : (0 : Int) ≤ (j : Int) := by omega
      have hj2 : (j : Int) < (n : Int) := by omega
      have hr60 : (pcs rr).length ≤ 60000 := HXB.out rr (by have := HD.out.small; omega)
      clear hj1 hk0 hcl hrr hbw
      have hnr : AR = Option.none → (pcs rr).length = 0 ∧ cr = 0 := fun h => ⟨by have h2 := HRR.out; rw [h] at h2; exact h2.none_zero, HAC.out h⟩
      have HNR : Box (AR = Option.none → (pcs rr).length = 0 ∧ cr = 0) := ⟨hnr⟩
      have HNW := Lib.hid (HRR.out.cells_alloc (.cells #[.int .i64 (a : Int)] 3))
      have HO1 : Hid ((wr.alloc (.cells #[.int .i64 (a : Int)] 3)).ownsRow wr.heap.size 3 1 (.slice (some ⟨wr.heap.size, 0, Option.none⟩) 1 1) 1 [.int .i64 (a : Int)]) := Lib.hid ((Cells.new wr 3 #[.int .i64 (a : Int)]).own (base := wr.heap.size) (n := 1) (k := 1) (Nat.le_refl _) rfl (by unfold maxLen; omega) (Nat.le_refl _))
      clear hnr
      go_wp2_with (at_builtin; refine wpList_append_own_opt rfl _ _ _ rfl wr.heap.size 3 i0 (.int .i64 0) 1 8 Tryz.underlying28 hi0 hz0 hz1 hz2 rfl (by decide) _ 1 _ rfl HO1.out AR (pcs rr).length cr (is (nI (pcs rr))) rfl (by rw [is_length, nI_len, Nat.mul_one]) HNR.out HNW.out (is_one _) (by unfold maxLen; omega) (by omega) (by simp) ?_; intro v3 w3 hown3 hg3; obtain ⟨A3, c3, rfl, _, _, _⟩ := Row.of_own hown3)
      replace hg3 : World.grownBy _ _ (some wr.heap.size) := hg3
      have hb3 : Below wr.heap.size wr w3 := ((Below.refl _ _).alloc (Nat.le_refl _) _).grown hg3 (by simp) (fun k hk => by injection hk with hk; omega)
      have hown4 : w3.ownsRow wr.heap.size 3 1 (.slice A3 (1 + (pcs rr).length) c3) (1 + (pcs rr).length) (is (nI (a :: pcs rr))) := hown3
      have hl3 : (a :: pcs rr).length = 1 + (pcs rr).length := by rw [List.length_cons]; omega
      have ht3 : TRow w3 (.slice A3 (1 + (pcs rr).length) c3) (nI (a :: pcs rr)) := TRow.of_own (by rw [nI_len, hl3]; exact hown4)
      have hp3 : Pcs (a :: pcs rr) := fun z hz => by
        rcases List.mem_cons.1 hz with hz | hz
        · omega
        · exact pcs_lt rr z hz
      have HTR := Lib.hid (trim03_pcs false A3 c3 _ (a :: pcs rr) w3 hl3 ht3 hp3)
      obtain ⟨R, HR⟩ : ∃ R, Box (a + 1000000000 * rr = R) := ⟨_, ⟨rfl⟩⟩
      rw [pv_cons, pv_pcs, HR.out, Bool.false_and] at HTR
      have hRB : R < 1000000000 * y := by
        have h1 := HD.out.small
        have h2 := HR.out
        omega
      have HRL : Box ((pcs R).length ≤ 60000) := ⟨HXB.out R hRB⟩
      have HRB : Box (R < 1000000000 * y) := ⟨hRB⟩
      have HAP3 : Box (∀ ad, A3 = some ad → w.heap.size < ad.block) := ⟨fun ad h => by
        have h1 := (own_apart hown3).1 ad h
        have h2 := HCL.out.lt
        omega⟩
      have HA3 : Box (A3 = Option.none → False) := ⟨fun h => by
        subst h
        have := ht3.none_zero
        omega⟩
      replace HCL := Lib.hid (HCL.out.below hb3 HCL.out.lt)
      have hbw := HBW.out.trans (hb3.mono HBW.out.size)
      clear hg3 hown3 hown4 hb3 ht3 hp3 hRB HNW HO1 HNR HRR HAC hca
      refine HTR.out.mono ?_
      rintro e w4 ⟨rfl, htr, hb⟩
      have HT := Lib.hid htr
      replace HCL := Lib.hid (HCL.out.below hb HCL.out.lt)
      replace hbw := hbw.trans (hb.mono hbw.size)
      clear htr hb HTR
      go_wp2_with fail
      refine (above_any _ _ R y _ HT.out (HY.out.below hbw) (by have := HRL.out; omega)).mono ?_
      rintro e w5 ⟨rfl, hb⟩
      replace HT := Lib.hid (HT.out.below hb)
      replace HCL := Lib.hid (HCL.out.below hb HCL.out.lt)
      replace hbw := hbw.trans (hb.mono hbw.size)
      clear hb
      by_cases hlt : R < y
      · have HDS : Box (DivTo l y j o R) := ⟨by rw [← HR.out]; exact HD.out.skip (by rw [HLN.out]; exact hjn) a HA.out (by rw [HR.out]; exact hlt)⟩
        rw [cmpN_lt hlt]
        clear hlt HRB
        go_wp2_with fail
        go_roundw
        case rel => exact ⟨j, o, R, A3, c3, by omega, by go_num, rfl, ⟨fun h => (HA3.out h).elim⟩, HAP3, HT.out, HDS, HCL.out, hbw⟩
        case measure => (simp [intOf]; try omega)
      · have hc0 := cmpN_ge (Nat.le_of_not_lt hlt)
        have HRY : Box (y ≤ R) := ⟨Nat.le_of_not_lt hlt⟩
        generalize cmpN R y = cc at *
        clear hlt
        have HSTEP : Box (∀ d r2, d < 1000000000 → d * y + r2 = R → r2 < y → DivTo l y j (o.set j d) r2) := ⟨fun d r2 h1 h2 h3 => HD.out.step (by rw [HLN.out]; exact hjn) a d r2 HA.out h1 (by rw [HR.out]; exact h2) h3⟩
        have HOL : Box (o.length = n) := ⟨by rw [HD.out.len, HLN.out]⟩
        by_cases hone : (pcs R).length = 1
        · obtain ⟨_, hR9, hRp⟩ := pcs_len_one hone
          have hyR := HRY.out
          have hyp : pcs y = [y] := pcs_small HY0.out (by omega)
          have hny1 : ny = 1 := by rw [← HNY.out, hyp]; rfl
          have ht1 : TRow w5 (.slice A3 1 c3) [(R : Int)] := by
            have h := HT.out
            rw [hone, pcsI_eq, hRp] at h
            exact h
          have hy1 : TRow w5 (.slice A2 1 c2) [(y : Int)] := by
            have h := HY.out.below hbw
            rw [hny1, pcsI_eq, hyp] at h
            exact h
          obtain ⟨g3, o3, rfl, hc3⟩ := ht1.one_cell
          obtain ⟨g2, o2, rfl, hc2⟩ := hy1.one_cell
          have HG2 : Box (g2 < w.heap.size) := ⟨by
            have h := HY.out
            rw [hny1, pcsI_eq, hyp] at h
            obtain ⟨g4, o4, e4, hc4⟩ := TRow.one_cell (z := (y : Int)) h
            injection e4 with e4
            injection e4 with e4 _
            subst e4
            exact cell_lt hc4⟩
          have hmy : R % y < y := Nat.mod_lt _ HY0.out
          have HDS : Box (DivTo l y j (o.set j (R / y)) (R % y)) := ⟨HSTEP.out (R / y) (R % y) (Nat.lt_of_le_of_lt (Nat.div_le_self _ _) hR9) (by rw [Nat.mul_comm]; exact Nat.div_add_mod R y) hmy⟩
          have hpm : Pcs [R % y] := fun z hz => by rw [List.mem_singleton] at hz; omega
          have HTM : Hid (∀ W : World, Calls Tryz.prog 89 #[.agg #[.bool false, .slice (some ⟨W.heap.size, 0, Option.none⟩) 1 1]] ((W.alloc (.cells #[.int .i64 ((R % y : Nat) : Int)] 3)).drew) fun e w' => e = .returned (.agg #[.bool false, .slice (some ⟨W.heap.size, 0, Option.none⟩) (pcs (R % y)).length 1]) ∧ TRow w' (.slice (some ⟨W.heap.size, 0, Option.none⟩) (pcs (R % y)).length 1) (pcsI (R % y)) ∧ Below (W.heap.size + 1) ((W.alloc (.cells #[.int .i64 ((R % y : Nat) : Int)] 3)).drew) w') := Lib.hid (fun W => by
            have h := trim03_pcs false (some ⟨W.heap.size, 0, Option.none⟩) 1 1 [R % y] ((W.alloc (.cells #[.int .i64 ((R % y : Nat) : Int)] 3)).drew) rfl (TRow.of_cells (Cells.new W 3 #[.int .i64 ((R % y : Nat) : Int)]).drew rfl (by unfold maxLen; omega)) hpm
            rw [pv_one, Bool.false_and, show ((W.alloc (.cells #[.int .i64 ((R % y : Nat) : Int)] 3)).drew).heap.size = W.heap.size + 1 from World.size_alloc _ _] at h
            exact h)
          have hdb : R / y < 1000000000 := Nat.lt_of_le_of_lt (Nat.div_le_self _ _) hR9
          have hmb : R % y < 1000000000 := Nat.lt_of_le_of_lt (Nat.mod_le _ _) hR9
          have hy2 : ((y : Int) == 0) = false := by rw [beq_eq_false_iff_ne]; have := HY0.out; omega
          have hy3 : ¬ ((y : Int) = 0) := by have := HY0.out; omega
          have hy4 : ¬ (y = 0) := by have := HY0.out; omega
          obtain ⟨d, hd⟩ : ∃ d, R / y = d := ⟨_, rfl⟩
          obtain ⟨m, hm⟩ : ∃ m, R % y = m := ⟨_, rfl⟩
          have hq1 : (R : Int) / (y : Int) = (d : Int) := by rw [← hd]; rfl
          have hq2 : (R : Int).tdiv (y : Int) = (d : Int) := by rw [← hd]; rfl
          have hm1 : (R : Int) % (y : Int) = (m : Int) := by rw [← hm]; rfl
          have hm2 : (R : Int).tmod (y : Int) = (m : Int) := by rw [← hm]; rfl
          have hw1 : IntKind.i64.wrap (d : Int) = (d : Int) := IntWalk.i64_in _ (by omega)
          have hw2 : IntKind.i64.wrap (m : Int) = (m : Int) := IntWalk.i64_in _ (by omega)
          rw [hd, hm] at HDS
          rw [hm] at HTM
          have k0 := HCL.out.cell j
          have k1 := HCL.out.free j
          rw [is_get o j (by rw [HOL.out]; exact hjn)] at k0
          have hlq := HCL.out.lt
          generalize o[j]?.getD 0 = oj at *
          have HBW2 := Lib.hid hbw
          rw [hone]
          clear hone ht1 hy1 hmy hpm hd hm hbw hyR hyp hRp hR9 hdb hmb
          subst hny1
          have hf3 : w.heap.size ≠ g3 := by have := HAP3.out _ rfl; change w.heap.size < g3 at this; omega
          have hf2 : w.heap.size ≠ g2 := by have := HG2.out; omega
          go_wp2_with fail
          go_region_held3 (fun w' => w'.cell? ⟨g3, o3, Option.none⟩ = some (.int .i64 (R : Int)) ∧ w'.cell? ⟨g2, o2, Option.none⟩ = some (.int .i64 (y : Int)))
            (first | exact ⟨hc3, hc2⟩ | exact ⟨u0, u1⟩ | exact ⟨keep_alloc3 hc3 _, keep_alloc3 hc2 _⟩ | exact ⟨(World.cell?_setCell_far _ _ _ _ hf3).trans u0, (World.cell?_setCell_far _ _ _ _ hf2).trans u1⟩ | go_keep)
            ((go_at_call 89; (with_reducible refine (HTM.out _).mono ?_); rintro e w7 ⟨rfl, ht7, hbk⟩; have u0 := keep_newd3 hc3 hbk; have u1 := keep_newd3 hc2 hbk; have u2 := keep_newd3 k0 hbk; have u3 := ((HCL.out.alloc _).drew.below hbk (by omega)).free j))
          have hcl7 := (HCL.out.alloc (.cells #[.int .i64 (m : Int)] 3)).drew.below hbk (by omega)
          have hb7 : Below w5.heap.size w5 w7 := (below_to_drew2 ((Below.refl _ _).alloc (Nat.le_refl _) (.cells #[.int .i64 (m : Int)] 3))).trans (hbk.mono (Nat.le_succ _))
          have HCL7 := Lib.hid hcl7
          have HB7 := Lib.hid (HBW2.out.trans (hb7.mono HBW2.out.size))
          have HT7 := Lib.hid ht7
          have HAP7 : Box (∀ ad, (some ⟨w5.heap.size, 0, Option.none⟩ : Option Addr) = some ad → w.heap.size < ad.block) := ⟨fun ad h => by injection h with h; subst h; exact hlq⟩
          clear hcl7 hb7 hbk ht7 hw1 hw2 hq1 hq2 hm1 hm2 hy2 hy3 hy4
          go_wp2_with fail
          go_roundw
          case rel => exact ⟨j, o.set j d, m, some ⟨w5.heap.size, 0, Option.none⟩, 1, by omega, by go_num, rfl, ⟨fun h => by cases h⟩, HAP7, HT7.out.set_apart HAP7.out _, HDS, cells_set_n HCL7.out _ _ _ rfl, HB7.out.setCell (Nat.le_refl _) _⟩
          case measure => (simp [intOf]; try omega)
        · have hone1 : (((pcs R).length : Int) == 1) = false := by rw [beq_eq_false_iff_ne]; omega
          have HBW2 := Lib.hid hbw
          clear hone hbw
          go_wp2_with fail
          obtain ⟨wo, rfl⟩ : ∃ wo : World, wo = w5 := ⟨_, rfl⟩
          go_loopw [7, 8] (fun lv hv wr => ∃ (L H : Nat), lv = .int .i64 L ∧ hv = .int .i64 H ∧ L < H ∧ H ≤ 1000000000 ∧ Box (L * y ≤ R ∧ R < H * y) ∧ Below wo.heap.size wo wr) (fun lv hv _ => (intOf hv - intOf lv).toNat)
          case atStart => exact ⟨0, 1000000000, rfl, rfl, by omega, Nat.le_refl _, ⟨by omega, HRB.out⟩, Below.refl _ _⟩
          case round =>
            obtain ⟨L, H, rfl, rfl, hLH, hH, HLH, hbi⟩ := hrel
            by_cases hgo : 1 < H - L
            · obtain ⟨M, hM⟩ : ∃ M, (L + H) / 2 = M := ⟨_, rfl⟩
              have hM1 : ((L : Int) + (H : Int)) / 2 = (M : Int) := by omega
              have hM2 : L < M := by omega
              have hM3 : M < H := by omega
              have hMB : M < 1000000000 := by omega
              have HTM := Lib.hid (times03_any _ y M wr ((HY.out.below HBW2.out).below hbi) hMB (by rw [HNY.out]; omega))
              have hgo1 : 1 < (H : Int) - (L : Int) := by omega
              have HYM : Box ((pcs (y * M)).length ≤ 100000) := ⟨by
                refine pcs_mul_len y M 100000 ?_
                have : (pcs M).length ≤ 1 := pcs_len_le 1 M (by simpa using hMB)
                rw [HNY.out]
                omega⟩
              obtain ⟨ym, HYE⟩ : ∃ ym, Box (y * M = ym) := ⟨_, ⟨rfl⟩⟩
              rw [HYE.out] at HTM HYM
              clear hM hgo hMB
              go_wp2_with fail
              refine HTM.out.mono ?_
              rintro e w6 ⟨⟨A6, c6, rfl, ht6⟩, hb⟩
              have hbi2 := hbi.trans (hb.mono hbi.size)
              have HT6 := Lib.hid ht6
              clear hb ht6 hbi
              go_wp2_with fail
              refine (above_any _ _ ym R _ HT6.out (HT.out.below hbi2) (by have := HYM.out; omega)).mono ?_
              rintro e w7 ⟨rfl, hb⟩
              replace hbi2 := hbi2.trans (hb.mono hbi2.size)
              clear hb HT6
              by_cases hle : ym ≤ R
              · have hcl := cmpN_le hle
                have HNW : Box (M * y ≤ R ∧ R < H * y) := ⟨by rw [Nat.mul_comm, HYE.out]; exact hle, HLH.out.2⟩
                generalize cmpN ym R = cc2 at *
                clear hle
                go_wp2_with fail
                go_roundw
                case rel => exact ⟨M, H, rfl, rfl, by omega, hH, HNW, hbi2⟩
                case measure => simp [intOf]; omega
              · have hcl : 0 < cmpN ym R := by rw [cmpN_gt (by omega)]; decide
                have HNW : Box (L * y ≤ R ∧ R < M * y) := ⟨HLH.out.1, by rw [Nat.mul_comm, HYE.out]; omega⟩
                generalize cmpN ym R = cc2 at *
                clear hle
                go_wp2_with fail
                go_roundw
                case rel => exact ⟨L, M, rfl, rfl, by omega, by omega, HNW, hbi2⟩
                case measure => simp [intOf]; omega
            · obtain rfl : H = L + 1 := by omega
              have hgo1 : ¬ 1 < ((L + 1 : Nat) : Int) - (L : Int) := by omega
              have hLB : L < 1000000000 := by omega
              have HTM := Lib.hid (times03_any _ y L wr ((HY.out.below HBW2.out).below hbi) hLB (by rw [HNY.out]; omega))
              have hle : y * L ≤ R := by rw [Nat.mul_comm]; exact HLH.out.1
              have hlt2 : R < y * L + y := by
                have h := HLH.out.2
                rw [Nat.add_mul, Nat.one_mul, Nat.mul_comm] at h
                exact h
              obtain ⟨yl, HYE⟩ : ∃ yl, Box (y * L = yl) := ⟨_, ⟨rfl⟩⟩
              rw [HYE.out] at HTM hle hlt2
              have HLE : Box (yl ≤ R) := ⟨hle⟩
              have HDS : Box (DivTo l y j (o.set j L) (R - yl)) := ⟨HSTEP.out L (R - yl) hLB (by rw [Nat.mul_comm, HYE.out]; omega) (by omega)⟩
              have hR60 := HRL.out
              clear hle hlt2 hLH hH HLH
              go_wp2_with fail
              refine HTM.out.mono ?_
              rintro e w6 ⟨⟨A6, c6, rfl, ht6⟩, hb⟩
              replace hbi := hbi.trans (hb.mono hbi.size)
              have HT6 := Lib.hid ht6
              clear hb ht6
              go_wp2_with fail
              have hq6 := (HCL.out.below hbi HCL.out.lt).lt
              refine (minus03_any _ _ R yl _ (HT.out.below hbi) HT6.out HLE.out (by omega)).mono ?_
              rintro e w7 ⟨⟨A7, c7, o7, rfl, ht7, hp7, hv7, hap7, han7⟩, hb⟩
              replace hbi := hbi.trans (hb.mono hbi.size)
              have HTR := Lib.hid (trim03_pcs false A7 c7 _ o7 w7 rfl ht7 hp7)
              rw [hv7, Bool.false_and] at HTR
              have HAP7 : Box (∀ ad, A7 = some ad → w.heap.size < ad.block) := ⟨fun ad h => by
                have h1 := hap7 ad h
                omega⟩
              have HA7 : Box (A7 = Option.none → c7 = 0) := ⟨han7⟩
              obtain ⟨n7, hn7⟩ : ∃ n7, o7.length = n7 := ⟨_, rfl⟩
              rw [hn7] at HTR ⊢
              clear hb ht7 hp7 hv7 HT6 hn7 hap7 han7
              go_wp2_with fail
              refine HTR.out.mono ?_
              rintro e w8 ⟨rfl, ht8, hb⟩
              replace hbi := hbi.trans (hb.mono hbi.size)
              have HT8 := Lib.hid ht8
              have hcl := HCL.out.below hbi HCL.out.lt
              have k0 := hcl.cell j
              have k1 := hcl.free j
              rw [is_get o j (by rw [HOL.out]; exact hjn)] at k0
              have hbz := HBW2.out.trans (hbi.mono HBW2.out.size)
              have HCL8 := Lib.hid hcl
              have HBZ := Lib.hid hbz
              generalize o[j]?.getD 0 = oj at *
              clear hb ht8 hbi hcl hbz HTR HTM
              go_wp2_with fail
              go_roundw
              case rel => exact ⟨j, o.set j L, R - yl, A7, c7, by omega, by go_num, rfl, HA7, HAP7, HT8.out.set_apart HAP7.out _, HDS, cells_set_n HCL8.out _ _ _ rfl, HBZ.out.setCell (Nat.le_refl _) _⟩
              case measure => (simp [intOf]; try omega)
    · obtain rfl : k = 0 := by omega
      obtain ⟨hq, hr⟩ := HDN.out o rr HD.out
      subst hr
      have hol : o.length = n := by rw [HD.out.len, HLN.out]
      have ht := TRow.of_cells (n := n) hcl (by rw [nI_len]; exact hol) (by unfold maxLen; omega)
      have HTR := Lib.hid (trim03_pcs false _ _ n o wr hol ht HD.out.pcs)
      rw [hq, Bool.false_and] at HTR
      have HBW := Lib.hid hbw
      clear ht hol hq hcl hrr hbw HD HDN
      go_wp2_with fail
      refine HTR.out.mono ?_
      rintro e w4 ⟨rfl, htq, hb⟩
      have HTQ := Lib.hid htq
      have HRQ := Lib.hid (HRR.out.below hb)
      have hbn := HBW.out.trans (hb.mono HBW.out.size)
      clear htq hb
      go_wp2_with fail
      go_ret2
      exact ⟨⟨_, _, _, _, rfl, HTQ.out, HRQ.out⟩, hbn⟩

end Go.Proofs.YtaiglcbgllnciaaGreatDoor

namespace Go.Proofs.YtaiglcbgllnciaaGreatDoor
open Go.RowKit Go.Lib

set_option maxRecDepth 100000 in
set_option maxHeartbeats 4000000 in
theorem gcdW03_any (b1 b2 : Bool) (v1 v2 : Value) (x y : Nat) (w : World) (h1 : TRow w v1 (pcsI x)) (h2 : TRow w v2 (pcsI y)) (hx : (pcs x).length ≤ 50000) (hy : (pcs y).length ≤ 50000) :
    Calls Tryz.prog 56 #[.agg #[.bool b1, v1], .agg #[.bool b2, v2]] w fun e w' => (∃ A c, e = .returned (.agg #[.bool false, .slice A (pcs (Nat.gcd x y)).length c]) ∧ TRow w' (.slice A (pcs (Nat.gcd x y)).length c) (pcsI (Nat.gcd x y))) ∧ Below w.heap.size w w' := by
  have H1 := Lib.hid h1
  have H2 := Lib.hid h2
  obtain ⟨A1, c1, rfl, _⟩ := h1.isRow
  obtain ⟨A2, c2, rfl, _⟩ := h2.isRow
  rw [pcsI_len] at H1 H2 ⊢
  rw [pcsI_len]
  obtain ⟨G, HG⟩ : ∃ G, Box (Nat.gcd x y = G) := ⟨_, ⟨rfl⟩⟩
  rw [HG.out]
  have HLX : Box ((pcs x).length ≤ 50000 ∧ (pcs y).length ≤ 50000) := ⟨hx, hy⟩
  obtain ⟨n, hn⟩ : ∃ n, (pcs x).length = n := ⟨_, rfl⟩
  obtain ⟨m, hm⟩ : ∃ m, (pcs y).length = m := ⟨_, rfl⟩
  have HN : Box ((pcs x).length = n ∧ (pcs y).length = m) := ⟨hn, hm⟩
  rw [hn] at H1 ⊢
  rw [hm] at H2 ⊢
  clear h1 h2 hx hy hn hm
  go_enter Tryz.func56, Tryz.ntmps56
  go_wp2_with fail
  obtain ⟨W3, hW3⟩ : ∃ W3, W3 = ((w.alloc (.cells #[.bool b1, .slice A1 n c1] 93)).alloc (.cells #[.bool b2, .slice A2 m c2] 93)).alloc (.cells #[.bool false, .slice Option.none 0 0] 93) := ⟨_, rfl⟩
  have C1 : Cells W3 w.heap.size 93 [.bool b1, .slice A1 n c1] := by rw [hW3]; exact ((Cells.new w _ _).alloc _).alloc _
  have C2 : Cells W3 (w.heap.size + 1) 93 [.bool b2, .slice A2 m c2] := by
    have h := Cells.new (w.alloc (.cells #[.bool b1, .slice A1 n c1] 93)) 93 #[.bool b2, .slice A2 m c2]
    rw [World.size_alloc] at h
    rw [hW3]; exact h.alloc _
  have CR : Cells W3 (w.heap.size + 1 + 1) 93 [.bool false, .slice Option.none 0 0] := by
    have h := Cells.new ((w.alloc (.cells #[.bool b1, .slice A1 n c1] 93)).alloc (.cells #[.bool b2, .slice A2 m c2] 93)) 93 #[.bool false, .slice Option.none 0 0]
    rw [World.size_alloc, World.size_alloc] at h
    rw [hW3]; exact h
  have hbw : Below w.heap.size w W3 := by rw [hW3]; exact (((Below.refl _ _).alloc (Nat.le_refl _) _).alloc (by simp) _).alloc (by simp; omega) _
  rw [← hW3]
  clear hW3
  have p0 := C1.cell 0
  have p1 := C1.cell 1
  have q0 := C2.cell 0
  have q1 := C2.cell 1
  simp only [List.getElem?_cons_succ, List.getElem?_cons_zero] at p0 p1 q0 q1
  have HCR := Lib.hid CR
  have HBW := Lib.hid hbw
  clear C1 C2 CR hbw
  go_quiet (fail)
  go_wp2_with fail
  go_loopg [5, 6] y (fun g xv yv wr => ∃ (a : Nat) (A : Option Addr) (c : Nat) (A2 : Option Addr) (c2 : Nat), xv = .slice A (pcs a).length c ∧ yv = .slice A2 (pcs g).length c2 ∧ TRow wr (.slice A (pcs a).length c) (pcsI a) ∧ TRow wr (.slice A2 (pcs g).length c2) (pcsI g) ∧ Box (Nat.gcd a g = G) ∧ Box ((pcs a).length ≤ 50000 ∧ (pcs g).length ≤ 50000) ∧ Below W3.heap.size W3 wr)
  case atStart => exact ⟨x, A1, c1, A2, c2, by rw [HN.out.1], by rw [HN.out.2], by rw [HN.out.1]; exact H1.out.below (below_drewN HBW.out _), by rw [HN.out.2]; exact H2.out.below (below_drewN HBW.out _), HG, HLX, below_drewN (Below.refl _ _) _⟩
  case round =>
    clear p0 p1 q0 q1
    obtain ⟨a, A, c, A', c', rfl, rfl, hta, htg, HGG, HLL, hbk⟩ := hrel
    have HTA := Lib.hid hta
    have HTG := Lib.hid htg
    clear hta htg
    rcases Nat.eq_zero_or_pos gk with h0 | h0
    · subst h0
      obtain rfl : a = G := by have h := HGG.out; rw [Nat.gcd_zero_right] at h; exact h
      have hz : (pcs 0).length = 0 := by rw [pcs_zero]; rfl
      rw [hz]
      have CR2 := HCR.out.below hbk HCR.out.lt
      have HCR2 := Lib.hid CR2
      have r0 := CR2.cell 0
      have r1 := CR2.cell 1
      have s0 := CR2.free 0
      have s1 := CR2.free 1
      simp only [List.getElem?_cons_succ, List.getElem?_cons_zero] at r0 r1
      have hbn := HBW.out.trans (hbk.mono HBW.out.size)
      clear CR2 hz
      go_wp2_with fail
      refine bodyPost_ret (v := .agg #[.bool false, .slice A (pcs a).length c]) (by simp [results, Tryz.results56, go_sem, r0, r1]) rfl ⟨⟨_, _, rfl, ?_⟩, ?_⟩
      · exact (HTA.out.set HCR2.out (by decide) _).set (HCR2.out.set 0 _) (by decide) _
      · exact (hbn.setCell (by show w.heap.size ≤ w.heap.size + 1 + 1; omega) _).setCell (by show w.heap.size ≤ w.heap.size + 1 + 1; omega) _
    · have hp : 0 < (pcs gk).length := by rw [pcs_pos h0]; simp
      have HDV := Lib.hid (divide03_any _ _ a gk wr HTA.out HTG.out h0 HLL.out.1 HLL.out.2)
      have hlt := Nat.mod_lt a h0
      have HNX : Box (Nat.gcd gk (a % gk) = G) := ⟨by rw [← HGG.out, Nat.gcd_comm a gk, Nat.gcd_rec gk a, Nat.gcd_comm]⟩
      have HL2 : Box ((pcs gk).length ≤ 50000 ∧ (pcs (a % gk)).length ≤ 50000) := ⟨HLL.out.2, Nat.le_trans (pcs_len_mono (Nat.le_of_lt hlt)) HLL.out.2⟩
      obtain ⟨r, hr⟩ : ∃ r, a % gk = r := ⟨_, rfl⟩
      rw [hr] at hlt HNX HL2 HDV
      clear hr
      go_wp2_with fail
      refine HDV.out.mono ?_
      rintro e w5 ⟨⟨A5, c5, A6, c6, rfl, _, ht6⟩, hb⟩
      have HT6 := Lib.hid ht6
      replace HTG := Lib.hid (HTG.out.below hb)
      replace hbk := hbk.trans (hb.mono hbk.size)
      clear ht6 hb
      go_wp2_with fail
      go_roundg r
      case measure => exact hlt
      case rel => exact ⟨gk, A', c', A6, c6, rfl, rfl, HTG.out, HT6.out, HNX, HL2, hbk⟩

end Go.Proofs.YtaiglcbgllnciaaGreatDoor

namespace Go.Proofs.YtaiglcbgllnciaaGreatDoor
open Go.RowKit Go.Lib

theorem lows_zero (k : Nat) : lows k 0 = List.replicate k 48 := by
  induction k with
  | zero => rfl
  | succ k ih => rw [lows, List.replicate_succ, Nat.zero_mod, Nat.zero_div, ih]; rfl
theorem pad_lows : ∀ (k p : Nat), p < 10 ^ k → 0 < k → List.replicate (k - (decDigits p).length) 48 ++ decDigits p = (lows k p).reverse
  | 0, _, _, h => by omega
  | k + 1, p, hp, _ => by
    rw [lows, List.reverse_cons]
    by_cases h : p < 10
    · rw [dec_small h, Nat.mod_eq_of_lt h, Nat.div_eq_of_lt h, lows_zero, List.reverse_replicate]
      simp
    · have hk : 0 < k := by
        rcases Nat.eq_zero_or_pos k with h0 | h0
        · subst h0; simp at hp; omega
        · exact h0
      have ih := pad_lows k (p / 10) (by rw [Nat.pow_succ] at hp; omega) hk
      rw [dec_big h, List.length_append, List.length_singleton, Nat.add_sub_add_right, ← List.append_assoc, ih]
/-- The text of the first k pieces. -/
def fromTo (n k : Nat) : List UInt8 := if k < (pcs n).length then (lowsAll ((pcs n).take k)).reverse else decDigits n
theorem fromTo_zero {n : Nat} (h : 0 < n) : fromTo n 0 = [] := by
  unfold fromTo
  rw [if_pos (by rw [pcs_pos h]; simp)]
  rfl
theorem fromTo_mid {n k : Nat} (h : k + 1 < (pcs n).length) (p : Nat) (hp : (pcs n)[k]?.getD 0 = p) : fromTo n (k + 1) = List.replicate (9 - (decDigits p).length) 48 ++ decDigits p ++ fromTo n k := by
  have hlt := pcs_getD (pcs_lt n) k
  rw [hp] at hlt
  unfold fromTo
  rw [if_pos h, if_pos (by omega), pad_lows 9 p (by omega) (by omega), List.take_succ_eq_append_getElem (by omega)]
  rw [List.getElem?_eq_getElem (by omega)] at hp
  simp only [Option.getD_some] at hp
  rw [hp]
  simp [lowsAll]
theorem fromTo_last {n k : Nat} (h : k + 1 = (pcs n).length) (p : Nat) (hp : (pcs n)[k]?.getD 0 = p) : fromTo n (k + 1) = decDigits p ++ fromTo n k := by
  have h0 : 0 < n := by
    rcases Nat.eq_zero_or_pos n with h0 | h0
    · subst h0; rw [pcs_zero] at h; simp at h
    · exact h0
  obtain ⟨k2, h1, h2⟩ := pcs_top n h0
  obtain rfl : k2 = k := by omega
  rw [hp] at h2
  unfold fromTo
  rw [if_neg (by omega), if_pos (by omega)]
  have e := dec_pieces ((pcs n).take k2) p (fun x hx => pcs_lt n x (List.mem_of_mem_take hx)) (by omega)
  have hv : pv ((pcs n).take k2) + 1000000000 ^ ((pcs n).take k2).length * p = n := by
    have e2 := pv_take_succ (pcs n) k2 (by omega)
    rw [hp, List.take_of_length_le (by omega), pv_pcs] at e2
    rw [List.length_take, Nat.min_eq_left (by omega)]
    omega
  rw [hv] at e
  exact e
theorem fromTo_len (n k : Nat) : (fromTo n k).length ≤ 9 * (pcs n).length + (decDigits n).length := by
  unfold fromTo
  split
  · rw [List.length_reverse, lowsAll_length, List.length_take]; omega
  · omega
theorem itoa_sgn (b : Bool) (n : Nat) (h : b = true → 0 < n) : itoa (sgnd b n) = if b then 45 :: decDigits n else decDigits n := by
  cases b with
  | false => exact itoa_nat n
  | true =>
    have h0 := h rfl
    rcases itoa_cases (sgnd true n) with ⟨_, e⟩ | ⟨hz, _⟩
    · rw [e, sgnd_abs]; rfl
    · exact absurd hz (by show ¬ 0 ≤ -(n : Int); omega)

set_option maxRecDepth 100000 in
set_option maxHeartbeats 4000000 in
theorem from03_any (b : Bool) (v : Value) (n : Nat) (w : World) (hS : Std w) (h : TRow w v (pcsI n)) (hb : b = true → 0 < n) (hl : (pcs n).length ≤ 10000) (hd : (decDigits n).length ≤ 100000) :
    Calls Tryz.prog 60 #[.agg #[.bool b, v]] w fun e w' => e = .returned (.string ⟨(itoa (sgnd b n)).toArray⟩) ∧ Below w.heap.size w w' := by
  have H1 := Lib.hid h
  have HS := Lib.hid hS
  obtain ⟨A1, c1, rfl, _, _, r1⟩ := h.isRow
  rw [pcsI_len] at r1 H1 ⊢
  change Row w w.heap.size 1 A1 (pcs n).length (is (nI (pcs n))) at r1
  have R1 := Lib.hid r1
  rcases Nat.eq_zero_or_pos n with h0 | h0
  · subst h0
    have hbf : b = false := by cases b with | false => rfl | true => have := hb rfl; omega
    subst hbf
    have hz : (pcs 0).length = 0 := by rw [pcs_zero]; rfl
    rw [hz, show itoa (sgnd false 0) = [48] by kernel_rfl]
    clear r1 h hb hl hd
    go_enter Tryz.func60, Tryz.ntmps60
    go_wp2_with fail
    go_ret
    exact ⟨rfl, (Below.refl _ _).alloc (Nat.le_refl _) _⟩
  · rw [itoa_sgn b n hb]
    have HP1 : Box (Pcs (pcs n)) := ⟨pcs_lt n⟩
    have HF0 : Box (fromTo n 0 = []) := ⟨fromTo_zero h0⟩
    have HFM : Box (∀ k p, k + 1 < (pcs n).length → (pcs n)[k]?.getD 0 = p → fromTo n (k + 1) = List.replicate (9 - (decDigits p).length) 48 ++ decDigits p ++ fromTo n k) := ⟨fun k p h1 h2 => fromTo_mid h1 p h2⟩
    have HFL : Box (∀ k p, k + 1 = (pcs n).length → (pcs n)[k]?.getD 0 = p → fromTo n (k + 1) = decDigits p ++ fromTo n k) := ⟨fun k p h1 h2 => fromTo_last h1 p h2⟩
    have HFE : Box (fromTo n (pcs n).length = decDigits n) := ⟨by unfold fromTo; rw [if_neg (by omega)]⟩
    have HFN : Box (∀ k, (fromTo n k).length ≤ 200000) := ⟨fun k => by have := fromTo_len n k; omega⟩
    have hpos : 0 < (pcs n).length := by rw [pcs_pos h0]; simp
    generalize decDigits n = dn at *
    generalize fromTo n = F at *
    generalize pcs n = l at *
    obtain ⟨m, hm⟩ : ∃ m, l.length = m := ⟨_, rfl⟩
    rw [hm] at R1 HFM HFL HFE hpos hl ⊢
    have HM : Box (l.length = m) := ⟨hm⟩
    have hmz : ((m : Int) == 0) = false := by rw [beq_eq_false_iff_ne]; omega
    clear r1 h hb hd h0 hm H1
    go_enter Tryz.func60, Tryz.ntmps60
    go_wp2_with fail
    obtain ⟨W1, hW1⟩ : ∃ W1, W1 = w.alloc (.cells #[.bool b, .slice A1 m c1] 93) := ⟨_, rfl⟩
    have C1 : Hid (Cells W1 w.heap.size 93 [.bool b, .slice A1 m c1]) := Lib.hid (by rw [hW1]; exact Cells.new w _ _)
    have HBW : Hid (Below w.heap.size w W1) := Lib.hid (by rw [hW1]; exact (Below.refl _ _).alloc (Nat.le_refl _) _)
    rw [← hW1]
    clear hW1
    go_loopw [3, 4] (fun sv iv wr => ∃ k : Nat, k ≤ m ∧ iv = .int .i64 k ∧ sv = .string ⟨(F k).toArray⟩ ∧ Below W1.heap.size W1 wr) (fun _ iv _ => m - (intOf iv).toNat)
    case atStart => exact ⟨0, Nat.zero_le _, rfl, by rw [HF0.out], Below.refl _ _⟩
    case round =>
      obtain ⟨k, hk, rfl, rfl, hbk⟩ := hrel
      have hbx := HBW.out.trans (hbk.mono HBW.out.size)
      have D1 := C1.out.below hbk C1.out.lt
      have p0 := D1.cell 0
      have p1 := D1.cell 1
      simp only [List.getElem?_cons_succ, List.getElem?_cons_zero] at p0 p1
      have HC := Lib.hid D1
      clear D1
      by_cases hlt : k < m
      · obtain ⟨ad1, rfl, _, hca⟩ := (R1.out.below hbx (Nat.le_refl _)).n_at hlt
        have hp9 := pcs_getD HP1.out k
        obtain ⟨p, hp⟩ : ∃ p, l[k]?.getD 0 = p := ⟨_, rfl⟩
        rw [hp] at hca hp9
        have HP := Lib.hid hp
        have hdl := nDigits_le (u := p) (show 0 < 9 by omega) (by simpa using hp9)
        rw [← dec_length] at hdl
        have hfl := HFN.out k
        have HI := Lib.hid (Tryz.strconv_Itoa (p : Int) (by omega) (by omega) wr (HS.out.below hbx (Nat.le_refl _)).tab)
        rw [itoa_nat] at HI
        have HFM2 : Box (k + 1 < m → F (k + 1) = List.replicate (9 - (decDigits p).length) 48 ++ decDigits p ++ F k) := ⟨fun h => HFM.out k p h HP.out⟩
        have HFL2 : Box (k + 1 = m → F (k + 1) = decDigits p ++ F k) := ⟨fun h => HFL.out k p h HP.out⟩
        have hk0 : (0 : Int) ≤ (k : Int) := by omega
        have hk1 : (k : Int) < (m : Int) := by omega
        generalize decDigits p = dp at *
        have HFK : Box (F (k + 1) = F (k + 1)) := ⟨rfl⟩
        obtain ⟨FN, HFE2⟩ : ∃ FN, Box (F (k + 1) = FN) := ⟨_, ⟨rfl⟩⟩
        rw [HFE2.out] at HFM2 HFL2
        obtain ⟨fk, hfk⟩ : ∃ fk, F k = fk := ⟨_, rfl⟩
        rw [hfk] at HFM2 HFL2 hfl ⊢
        clear hp hfk HFK
        go_wp2_with fail
        refine HI.out.mono ?_
        rintro e w2 ⟨rfl, hw⟩
        have hb2 := grow_below hw
        have hbk2 := hbk.trans (hb2.mono hbk.size)
        have D2 := HC.out.below hb2 HC.out.lt
        replace HC := Lib.hid D2
        have z0 := D2.cell 0
        have z1 := D2.cell 1
        simp only [List.getElem?_cons_succ, List.getElem?_cons_zero] at z0 z1
        clear hw hb2 D2 p0 p1 HI hbk hbx
        by_cases hl2 : k + 1 < m
        · have HE : Box (FN = List.replicate (9 - dp.length) 48 ++ dp ++ fk) := ⟨HFM2.out hl2⟩
          have h9 : (9 : Int) - (dp.length : Int) = ((9 - dp.length : Nat) : Int) := by omega
          have hk2 : (k : Int) + 1 < (m : Int) := by omega
          have HRZ := Lib.hid (fun W => repeat_zeros (9 - dp.length) W (by omega))
          obtain ⟨q, hq⟩ : ∃ q, 9 - dp.length = q := ⟨_, rfl⟩
          rw [hq] at h9 HRZ HE
          have hzl : (List.replicate q (48 : UInt8)).length ≤ 9 := by rw [List.length_replicate]; omega
          generalize List.replicate q (48 : UInt8) = zz at *
          have hs1 : ¬ 9223372036854775807 < zz.length + dp.length := by omega
          have hs2 : ¬ 9223372036854775807 < zz.length + dp.length + fk.length := by omega
          clear hq hl2
          go_wp2_with fail
          refine (HRZ.out _).mono ?_
          rintro e w3 ⟨rfl, hb3⟩
          replace hbk2 := hbk2.trans (hb3.mono hbk2.size)
          clear hb3 z0 z1 HRZ
          go_wp2_with fail
          go_roundw
          case rel =>
            refine ⟨k + 1, by omega, by go_num, ?_, hbk2⟩
            rw [HFE2.out, HE.out]
            exact congrArg Value.string ((congrArg (· ++ (⟨fk.toArray⟩ : ByteArray)) (ba_append zz dp)).trans (ba_append (zz ++ dp) fk))
          case measure => simp [intOf]; omega
        · have HE : Box (FN = dp ++ fk) := ⟨HFL2.out (by omega)⟩
          have hk2 : ¬ (k : Int) + 1 < (m : Int) := by omega
          have hs1 : ¬ 9223372036854775807 < dp.length + fk.length := by omega
          clear hl2
          go_wp2_with fail
          go_roundw
          case rel =>
            refine ⟨k + 1, by omega, by go_num, ?_, hbk2⟩
            rw [HFE2.out, HE.out]
            exact congrArg Value.string (ba_append dp fk)
          case measure => simp [intOf]; omega
      · obtain rfl : k = m := by omega
        have hdl := HFN.out k
        rw [HFE.out] at hdl ⊢
        cases b with
        | false =>
          go_wp2_with fail
          go_ret
          exact ⟨rfl, hbx⟩
        | true =>
          have hs1 : ¬ 9223372036854775807 < 1 + dn.length := by omega
          go_wp2_with fail
          go_ret
          exact ⟨congrArg (fun s => Ending.returned (Value.string s)) (ba_append [45] dn), hbx⟩

end Go.Proofs.YtaiglcbgllnciaaGreatDoor
