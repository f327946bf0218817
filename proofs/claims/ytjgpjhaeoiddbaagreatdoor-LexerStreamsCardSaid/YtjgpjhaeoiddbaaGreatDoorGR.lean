/- schismaref03: magnitudes as pieces; trim, above. schismaref03.minus: a magnitude less a magnitude that is not greater. schismaref03.MulW, times. schismaref03.times. schismaref03.divide. -/
import Derived.Test.YtjgpjhaeoiddbaaGreatDoorGM
import Derived.Test.YtjgpjhaeoiddbaaGreatDoorGD
import Derived.Laws.AppendOwnNone
namespace Go.Proofs.YtjgpjhaeoiddbaaGreatDoor
open Go.RowKit Go.Lib

/-- Pieces as ints. -/
def nI (l : List Nat) : List Int := l.map Int.ofNat
theorem nI_len (l : List Nat) : (nI l).length = l.length := by simp [nI]
theorem pcsI_eq (n : Nat) : pcsI n = nI (pcs n) := rfl
theorem pcsI_len (n : Nat) : (pcsI n).length = (pcs n).length := nI_len _
theorem nI_append (a b : List Nat) : nI (a ++ b) = nI a ++ nI b := by simp [nI]
theorem nI_get (l : List Nat) (k : Nat) : (nI l)[k]?.getD 0 = ((l[k]?.getD 0 : Nat) : Int) := by
  unfold nI
  rw [List.getElem?_map]
  cases l[k]? <;> rfl
theorem nI_take (l : List Nat) (k : Nat) : (nI l).take k = nI (l.take k) := by simp [nI, List.map_take]
theorem nI_set (l : List Nat) (k v : Nat) : (nI l).set k (v : Int) = nI (l.set k v) := by simp [nI, List.map_set]
theorem Row.n_at {w : World} {B n k : Nat} {A : Option Addr} {l : List Nat} (h : Row w B 1 A n (is (nI l))) (hk : k < n) :
    ∃ ad, A = some ad ∧ ad.block < B ∧ w.cell? (ad.add k) = some (.int .i64 ((l[k]?.getD 0 : Nat) : Int)) := by
  obtain ⟨ad, e, hb, hc⟩ := h.i_at hk
  exact ⟨ad, e, hb, by rw [hc, nI_get]⟩
theorem cells_set_n {w : World} {g : Nat} {e : TypeId} {o : List Nat} (h : Cells w g e (is (nI o))) (k v : Nat) (z : Int) (hz : z = (v : Int)) : Cells (w.setCell ⟨g, k, Option.none⟩ (.int .i64 z)) g e (is (nI (o.set k v))) := by
  subst hz
  rw [← nI_set]
  have e1 : is ((nI o).set k (v : Int)) = (is (nI o)).set k (.int .i64 (v : Int)) := by unfold is; rw [List.map_set]
  rw [e1]
  exact h.set k _
theorem is_snoc_n (o : List Nat) (v : Nat) (z : Int) (hz : z = (v : Int)) : is (nI (o ++ [v])) = is (nI o) ++ [.int .i64 z] := by
  subst hz
  rw [nI_append, is_append]; rfl

theorem keepLen_spec (x : List Int) : ∀ n, (∀ j, keepLen x n ≤ j → j < n → x[j]?.getD 0 = 0) ∧ (keepLen x n = 0 ∨ x[keepLen x n - 1]?.getD 0 ≠ 0)
  | 0 => ⟨fun j _ h => by omega, .inl rfl⟩
  | n + 1 => by
    obtain ⟨h1, h2⟩ := keepLen_spec x n
    rw [keepLen]
    by_cases hz : x[n]?.getD 0 = 0
    · rw [if_pos hz]
      refine ⟨fun j a b => ?_, h2⟩
      by_cases hj : j = n
      · rw [hj]; exact hz
      · exact h1 j a (by omega)
    · rw [if_neg hz]
      exact ⟨fun j a b => by omega, .inr (by simpa using hz)⟩
theorem keep_nI (l : List Nat) (h : Pcs l) : keepLen (nI l) (nI l).length = (pcs (pv l)).length := by
  obtain ⟨h1, h2⟩ := keepLen_spec (nI l) (nI l).length
  have hk := keepLen_le (nI l) (nI l).length
  generalize keepLen (nI l) (nI l).length = k at *
  rw [nI_len] at hk h1
  refine trim_len l k l.length h rfl hk (fun j a b => ?_) ?_
  · have := h1 j a b
    rw [nI_get] at this
    omega
  · rcases h2 with h2 | h2
    · exact .inl h2
    · rw [nI_get] at h2
      exact .inr (by omega)
theorem pcs_len_pos (n : Nat) : decide (0 < (pcs n).length) = decide (0 < n) := by
  rcases Nat.eq_zero_or_pos n with h | h
  · subst h; rw [pcs_zero]; rfl
  · rw [pcs_pos h]; simp [h]
theorem TRow.trim {w : World} {A : Option Addr} {c n : Nat} {l : List Nat} (h : TRow w (.slice A n c) (nI l)) (hp : Pcs l) : TRow w (.slice A (pcs (pv l)).length c) (pcsI (pv l)) := by
  obtain ⟨h1, h2⟩ := trim_take l hp
  have h3 := h.cut (k := (pcs (pv l)).length) (by rw [nI_len]; exact h1)
  rw [nI_take, h2] at h3
  exact h3

/-- schismaref03.trim of pieces. -/
theorem trim03_pcs (b : Bool) (A : Option Addr) (c n : Nat) (l : List Nat) (w : World) (hn : l.length = n) (hv : TRow w (.slice A n c) (nI l)) (hp : Pcs l) :
    Calls Tryz.prog 146 #[.agg #[.bool b, .slice A n c]] w fun e w' => e = .returned (.agg #[.bool (b && decide (0 < pv l)), .slice A (pcs (pv l)).length c]) ∧ TRow w' (.slice A (pcs (pv l)).length c) (pcsI (pv l)) ∧ Below w.heap.size w w' := by
  subst hn
  have h := trim03_at b A c (nI l) w (by rw [nI_len]; exact hv.isRow)
  rw [keep_nI l hp, nI_len, pcs_len_pos] at h
  refine h.mono ?_
  rintro e w' ⟨rfl, hb⟩
  exact ⟨rfl, (hv.trim hp).below hb, hb⟩

set_option maxHeartbeats 1000000 in
theorem above_at (A1 A2 : Option Addr) (x y c1 c2 : Nat) (w : World) (h1 : Row w w.heap.size 1 A1 (pcs x).length (is (nI (pcs x)))) (h2 : Row w w.heap.size 1 A2 (pcs y).length (is (nI (pcs y)))) (hx : (pcs x).length ≤ 1000000) :
    Calls Tryz.prog 187 #[.slice A1 (pcs x).length c1, .slice A2 (pcs y).length c2] w fun e w' => e = .returned (.int .i64 (cmpN x y)) ∧ Below w.heap.size w w' := by
  have p1 := pcs_lt x
  have p2 := pcs_lt y
  rcases Nat.lt_trichotomy (pcs x).length (pcs y).length with hlt | heq | hgt
  · have hc : cmpN x y = -1 := by unfold cmpN; rw [if_pos (pcs_len_lt hlt)]
    rw [hc]
    clear hc p1 p2
    generalize (pcs x).length = n at *
    generalize (pcs y).length = m at *
    go_enter Tryz.func187, Tryz.ntmps187
    go_wp2
    go_ret
    exact ⟨ret_int (by omega), Below.refl _ _⟩
  · have HEQ := Lib.hid heq
    have hxv := pv_pcs x
    have hyv := pv_pcs y
    generalize hl1 : pcs x = l at *
    generalize hl2 : pcs y = r at *
    have HXV := Lib.hid hxv
    have HYV := Lib.hid hyv
    clear heq hxv hyv hl1 hl2
    have hne : ((l.length : Int) != (r.length : Int)) = false := by simp [HEQ.out]
    go_enter Tryz.func187, Tryz.ntmps187
    go_wp2
    go_loopw [5] (fun i wr => ∃ k : Nat, k ≤ l.length ∧ i = .int .i64 ((k : Int) - 1) ∧ Box (l.drop k = r.drop k) ∧ Below w.heap.size w wr) (fun i _ => (intOf i + 1).toNat)
    case atStart => exact ⟨l.length, Nat.le_refl _, rfl, ⟨by rw [List.drop_of_length_le (Nat.le_refl _), List.drop_of_length_le (by rw [HEQ.out]; exact Nat.le_refl _)]⟩, Below.refl _ _⟩
    case round =>
      obtain ⟨k, hk, rfl, HD, hbw⟩ := hrel
      by_cases hk0 : 0 < k
      · obtain ⟨j, rfl⟩ : ∃ j, k = j + 1 := ⟨k - 1, by omega⟩
        obtain ⟨ad1, rfl, _, hca⟩ := (h1.below hbw (Nat.le_refl _)).n_at (k := j) (by omega)
        obtain ⟨ad2, rfl, _, hcb⟩ := (h2.below hbw (Nat.le_refl _)).n_at (k := j) (by rw [← HEQ.out]; omega)
        have hj1 : (((j + 1 : Nat) : Int) - 1) = (j : Int) := by omega
        rw [hj1]
        have hlt1 : Box (l[j]?.getD 0 < r[j]?.getD 0 → x < y) := ⟨fun h => by rw [← HXV.out, ← HYV.out]; exact pv_lt_at p1 HEQ.out (by omega) HD.out h⟩
        have hgt1 : Box (r[j]?.getD 0 < l[j]?.getD 0 → y < x) := ⟨fun h => by rw [← HXV.out, ← HYV.out]; exact pv_lt_at p2 HEQ.out.symm (by rw [← HEQ.out]; omega) HD.out.symm h⟩
        have heq1 : Box (l[j]?.getD 0 = r[j]?.getD 0 → l.drop j = r.drop j) := ⟨fun h => by
          have hl : j < l.length := by omega
          have hr : j < r.length := by rw [← HEQ.out]; omega
          rw [List.drop_eq_getElem_cons hl, List.drop_eq_getElem_cons hr, HD.out]
          rw [List.getElem?_eq_getElem hl, List.getElem?_eq_getElem hr] at h
          simp at h
          rw [h]⟩
        generalize l[j]?.getD 0 = a at *
        generalize r[j]?.getD 0 = b at *
        have hj0 : (0 : Int) ≤ (j : Int) := by omega
        have hjl : (j : Int) < (l.length : Int) := by omega
        have hjr : (j : Int) < (r.length : Int) := by rw [← HEQ.out]; omega
        clear hj1
        rcases Nat.lt_trichotomy a b with h | h | h
        · have hd : decide ((a : Int) < (b : Int)) = true := by simpa using h
          have HE : Box (cmpN x y = -1) := ⟨by unfold cmpN; rw [if_pos (hlt1.out h)]⟩
          go_wp2_with fail
          go_quiet (fail)
          go_wp2_with fail
          go_ret
          exact ⟨ret_int HE.out.symm, below_drewN hbw _⟩
        · subst h
          have HE := heq1.out rfl
          have HED : Box (l.drop j = r.drop j) := ⟨HE⟩
          clear HE heq1
          go_wp2_with fail
          go_quiet (fail)
          go_wp2_with fail
          go_quiet (fail)
          go_wp2_with fail
          go_roundw
          case rel => exact ⟨j, by omega, by go_num, HED, below_drewN hbw _⟩
          case measure => (simp [intOf]; try omega)
        · have hd : decide ((a : Int) < (b : Int)) = false := by simp; omega
          have hd2 : decide ((b : Int) < (a : Int)) = true := by simpa using h
          have HE : Box (cmpN x y = 1) := ⟨by have := hgt1.out h; unfold cmpN; rw [if_neg (by omega), if_neg (by omega)]⟩
          go_wp2_with fail
          go_quiet (fail)
          go_wp2_with fail
          go_quiet (fail)
          go_wp2_with fail
          go_ret
          exact ⟨ret_int HE.out.symm, below_drewN (below_drewN hbw _) _⟩
      · obtain rfl : k = 0 := by omega
        have HE : Box (cmpN x y = 0) := ⟨by
          have h := HD.out
          simp only [List.drop_zero] at h
          have : x = y := by rw [← HXV.out, ← HYV.out, h]
          unfold cmpN
          rw [if_neg (by omega), if_pos this]⟩
        go_wp2_with fail
        go_ret
        exact ⟨ret_int HE.out.symm, hbw⟩
  · have hc : cmpN x y = 1 := by unfold cmpN; have := pcs_len_lt hgt; rw [if_neg (by omega), if_neg (by omega)]
    rw [hc]
    clear hc p1 p2
    generalize (pcs x).length = n at *
    generalize (pcs y).length = m at *
    go_enter Tryz.func187, Tryz.ntmps187
    go_wp2
    go_ret
    exact ⟨ret_int (by omega), Below.refl _ _⟩

theorem above_any (v1 v2 : Value) (x y : Nat) (w : World) (h1 : TRow w v1 (pcsI x)) (h2 : TRow w v2 (pcsI y)) (hx : (pcs x).length ≤ 1000000) :
    Calls Tryz.prog 187 #[v1, v2] w fun e w' => e = .returned (.int .i64 (cmpN x y)) ∧ Below w.heap.size w w' := by
  obtain ⟨A1, c1, rfl, _, _, r1⟩ := h1.isRow
  obtain ⟨A2, c2, rfl, _, _, r2⟩ := h2.isRow
  rw [pcsI_len] at r1 r2 ⊢
  rw [pcsI_len]
  exact above_at A1 A2 x y c1 c2 w r1 r2 hx

end Go.Proofs.YtjgpjhaeoiddbaaGreatDoor

namespace Go.Proofs.YtjgpjhaeoiddbaaGreatDoor
open Go.RowKit Go.Lib

/-- What minus has reached after k pieces. -/
structure MinTo (l r : List Nat) (k bo : Nat) (o : List Nat) : Prop where
  len : o.length = k
  pcs : Pcs o
  bol : bo ≤ 1
  val : pv o + pv (r.take k) = pv (l.take k) + bo * 1000000000 ^ k

theorem pv_snoc (o : List Nat) (v : Nat) : pv (o ++ [v]) = pv o + 1000000000 ^ o.length * v := by rw [pv_append]; simp [pv]
theorem pv_take_next (r : List Nat) (k : Nat) : pv (r.take (k + 1)) = pv (r.take k) + 1000000000 ^ k * r[k]?.getD 0 := by
  by_cases h : k < r.length
  · exact pv_take_succ r k h
  · rw [List.take_of_length_le (by omega), List.take_of_length_le (by omega), List.getElem?_eq_none (by omega)]; simp
theorem pcs_snoc {o : List Nat} {v : Nat} (h : Pcs o) (hv : v < 1000000000) : Pcs (o ++ [v]) := by
  intro x hx
  rcases List.mem_append.1 hx with hx | hx
  · exact h x hx
  · rw [List.mem_singleton] at hx; omega
theorem minTo_start (l r : List Nat) : MinTo l r 0 0 [] := ⟨rfl, fun x h => by simp at h, by omega, by simp [pv]⟩
theorem minTo_step {l r : List Nat} {k bo : Nat} {o : List Nat} (h : MinTo l r k bo o) (x y bo2 v : Nat) (hx : l[k]?.getD 0 = x) (hy : r[k]?.getD 0 = y) (hv : v < 1000000000) (hb : bo2 ≤ 1) (he : v + bo + y = x + bo2 * 1000000000) : MinTo l r (k + 1) bo2 (o ++ [v]) := by
  refine ⟨by simp [h.len], pcs_snoc h.pcs hv, hb, ?_⟩
  rw [pv_snoc, h.len, pv_take_next, pv_take_next, hx, hy]
  have e := h.val
  generalize pv o = a at *
  generalize pv (r.take k) = b at *
  generalize pv (l.take k) = c at *
  rw [Nat.pow_succ]
  generalize (1000000000 : Nat) ^ k = P at *
  have e2 : P * (v + bo + y) = P * (x + bo2 * 1000000000) := by rw [he]
  rw [Nat.mul_add, Nat.mul_add, Nat.mul_add] at e2
  rw [Nat.mul_comm bo P] at e
  have e3 : bo2 * (P * 1000000000) = P * (bo2 * 1000000000) := by rw [Nat.mul_left_comm]
  rw [e3]
  omega
theorem minTo_done {x y bo : Nat} {o : List Nat} (h : MinTo (pcs x) (pcs y) (pcs x).length bo o) (hyx : y ≤ x) : pv o = x - y := by
  have e := h.val
  rw [List.take_of_length_le (Nat.le_refl _), List.take_of_length_le (pcs_len_mono hyx), pv_pcs, pv_pcs] at e
  have hl := pv_lt o h.pcs
  rw [h.len] at hl
  rcases (show bo = 0 ∨ bo = 1 by have := h.bol; omega) with rfl | rfl
  · omega
  · omega

theorem own_apart {w : World} {base : Nat} {e : TypeId} {size n c : Nat} {A : Option Addr} {m : Nat} {xs : List Value} (h : w.ownsRow base e size (.slice A m c) n xs) : (∀ ad, A = some ad → base ≤ ad.block) ∧ (A = Option.none → c = 0) := by
  rcases h.2 with ⟨hv, _⟩ | ⟨g, cap, cur, hv, hb, _⟩
  · injection hv with h1 _ h3
    subst h1 h3
    exact ⟨(fun ad h => by cases h), fun _ => rfl⟩
  · injection hv with h1 _ _
    subst h1
    exact ⟨(fun ad h => by injection h with h; subst h; exact hb), (fun h => by cases h)⟩

set_option maxRecDepth 100000 in
set_option maxHeartbeats 2000000 in
theorem minus03_any (v1 v2 : Value) (x y : Nat) (w : World) (h1 : TRow w v1 (pcsI x)) (h2 : TRow w v2 (pcsI y)) (hyx : y ≤ x) (hx : (pcs x).length ≤ 1000000) :
    Calls Tryz.prog 189 #[v1, v2] w fun e w' => (∃ A c o, e = .returned (.slice A o.length c) ∧ TRow w' (.slice A o.length c) (nI o) ∧ Pcs o ∧ pv o = x - y ∧ (∀ ad, A = some ad → w.heap.size ≤ ad.block) ∧ (A = Option.none → c = 0)) ∧ Below w.heap.size w w' := by
  obtain ⟨i0, hi0, hz0, hz1, hz2⟩ := info_parts Tryz.info_int
  obtain ⟨A1, c1, rfl, _, _, r1⟩ := h1.isRow
  obtain ⟨A2, c2, rfl, _, _, r2⟩ := h2.isRow
  rw [pcsI_len] at r1 r2 ⊢
  rw [pcsI_len]
  have hly : (pcs y).length ≤ (pcs x).length := pcs_len_mono hyx
  have HDN : Box (∀ bo o, MinTo (pcs x) (pcs y) (pcs x).length bo o → pv o = x - y) := ⟨fun bo o h => minTo_done h hyx⟩
  have HP1 : Box (Pcs (pcs x)) := ⟨pcs_lt x⟩
  have HP2 : Box (Pcs (pcs y)) := ⟨pcs_lt y⟩
  change Row w w.heap.size 1 A1 (pcs x).length (is (nI (pcs x))) at r1
  change Row w w.heap.size 1 A2 (pcs y).length (is (nI (pcs y))) at r2
  have R1 := Lib.hid r1
  have R2 := Lib.hid r2
  obtain ⟨z, HZ⟩ : ∃ z, Box (x - y = z) := ⟨_, ⟨rfl⟩⟩
  rw [HZ.out] at HDN ⊢
  clear r1 r2 h1 h2 hyx HZ
  generalize pcs x = l at *
  generalize pcs y = r at *
  go_enter Tryz.func189, Tryz.ntmps189
  go_wp2_with fail
  go_loopw [5, 6, 7] (fun ov bv iv wr => ∃ (k bo : Nat) (o : List Nat), k ≤ l.length ∧ iv = .int .i64 k ∧ bv = .int .i64 bo ∧ wr.ownsRow w.heap.size 3 1 ov o.length (is (nI o)) ∧ Box (MinTo l r k bo o) ∧ Below w.heap.size w wr) (fun _ _ iv _ => l.length - (intOf iv).toNat)
  case atStart => exact ⟨0, 0, [], Nat.zero_le _, rfl, rfl, World.ownsRow_nil _ _ _ _, ⟨minTo_start l r⟩, Below.refl _ _⟩
  case round =>
    obtain ⟨k, bo, o, hk, rfl, rfl, hown, HM, hbw⟩ := hrel
    have HO := Lib.hid hown
    have hbo := HM.out.bol
    have holn : o.length ≤ l.length := by rw [HM.out.len]; exact hk
    clear hown
    by_cases hlt : k < l.length
    · obtain ⟨ad1, rfl, _, hca⟩ := (R1.out.below hbw (Nat.le_refl _)).n_at (k := k) hlt
      have ha9 := pcs_getD HP1.out k
      have hb9 := pcs_getD HP2.out k
      have HST : Box (∀ bo2 v : Nat, v < 1000000000 → bo2 ≤ 1 → v + bo + r[k]?.getD 0 = l[k]?.getD 0 + bo2 * 1000000000 → MinTo l r (k + 1) bo2 (o ++ [v])) := ⟨fun bo2 v h1 h2 h3 => minTo_step HM.out _ _ bo2 v rfl rfl h1 h2 h3⟩
      by_cases hkr : k < r.length
      · obtain ⟨ad2, rfl, _, hcb⟩ := (R2.out.below hbw (Nat.le_refl _)).n_at (k := k) hkr
        generalize l[k]?.getD 0 = a at *
        generalize r[k]?.getD 0 = b at *
        have hk0 : (0 : Int) ≤ (k : Int) := by omega
        have hkl : (k : Int) < (l.length : Int) := by omega
        have hkr2 : (k : Int) < (r.length : Int) := by omega
        by_cases hneg : a < bo + b
        · have HN : Box (MinTo l r (k + 1) 1 (o ++ [a + 1000000000 - bo - b])) := ⟨HST.out 1 _ (by omega) (by omega) (by omega)⟩
          have hd : (a : Int) - (bo : Int) - (b : Int) < 0 := by omega
          have HV : Box ((a : Int) - (bo : Int) - (b : Int) + 1000000000 = ((a + 1000000000 - bo - b : Nat) : Int)) := ⟨by omega⟩
          clear HST
          go_wp2_with (at_builtin; refine wpList_append_own _ rfl _ _ _ rfl w.heap.size 3 i0 (.int .i64 0) 1 8 Tryz.underlying33 hi0 hz0 hz1 hz2 rfl (by decide) _ _ _ rfl (HO.out.alloc _) ⟨wr.heap.size, 0, Option.none⟩ 1 1 [_] rfl rfl (cell_one_new _ _ _) (by intro u hu; simp at hu; subst hu; rfl) (by unfold maxLen; omega) (by omega) (by have := hbw.size; simp; omega) ?_; intro v3 w3 hown3 hg3 _)
          go_wp2
          go_roundw
          case rel =>
            refine ⟨k + 1, 1, o ++ [a + 1000000000 - bo - b], by omega, by go_num, rfl, ?_, HN, ?_⟩
            · rw [is_snoc_n _ _ _ HV.out, List.length_append]; exact hown3
            · exact (hbw.trans (((Below.refl _ _).alloc (Nat.le_refl _) _).mono hbw.size)).grown hg3 (by have := hbw.size; simp; omega) (fun k hk => (HO.out.lt k hk).1)
          case measure => simp [intOf]; omega
        · have HN : Box (MinTo l r (k + 1) 0 (o ++ [a - bo - b])) := ⟨HST.out 0 _ (by omega) (by omega) (by omega)⟩
          have hd : ¬ (a : Int) - (bo : Int) - (b : Int) < 0 := by omega
          have HV : Box ((a : Int) - (bo : Int) - (b : Int) = ((a - bo - b : Nat) : Int)) := ⟨by omega⟩
          clear HST
          go_wp2_with (at_builtin; refine wpList_append_own _ rfl _ _ _ rfl w.heap.size 3 i0 (.int .i64 0) 1 8 Tryz.underlying33 hi0 hz0 hz1 hz2 rfl (by decide) _ _ _ rfl (HO.out.alloc _) ⟨wr.heap.size, 0, Option.none⟩ 1 1 [_] rfl rfl (cell_one_new _ _ _) (by intro u hu; simp at hu; subst hu; rfl) (by unfold maxLen; omega) (by omega) (by have := hbw.size; simp; omega) ?_; intro v3 w3 hown3 hg3 _)
          go_wp2
          go_roundw
          case rel =>
            refine ⟨k + 1, 0, o ++ [a - bo - b], by omega, by go_num, rfl, ?_, HN, ?_⟩
            · rw [is_snoc_n _ _ _ HV.out, List.length_append]; exact hown3
            · exact (hbw.trans (((Below.refl _ _).alloc (Nat.le_refl _) _).mono hbw.size)).grown hg3 (by have := hbw.size; simp; omega) (fun k hk => (HO.out.lt k hk).1)
          case measure => simp [intOf]; omega
      · have hb0 : r[k]?.getD 0 = 0 := by rw [List.getElem?_eq_none (by omega)]; rfl
        rw [hb0] at HST
        clear hb0 hb9
        generalize l[k]?.getD 0 = a at *
        have hk0 : (0 : Int) ≤ (k : Int) := by omega
        have hkl : (k : Int) < (l.length : Int) := by omega
        by_cases hneg : a < bo
        · have HN : Box (MinTo l r (k + 1) 1 (o ++ [a + 1000000000 - bo])) := ⟨HST.out 1 _ (by omega) (by omega) (by omega)⟩
          have hd : (a : Int) - (bo : Int) < 0 := by omega
          have HV : Box ((a : Int) - (bo : Int) + 1000000000 = ((a + 1000000000 - bo : Nat) : Int)) := ⟨by omega⟩
          clear HST
          go_wp2_with (at_builtin; refine wpList_append_own _ rfl _ _ _ rfl w.heap.size 3 i0 (.int .i64 0) 1 8 Tryz.underlying33 hi0 hz0 hz1 hz2 rfl (by decide) _ _ _ rfl (HO.out.alloc _) ⟨wr.heap.size, 0, Option.none⟩ 1 1 [_] rfl rfl (cell_one_new _ _ _) (by intro u hu; simp at hu; subst hu; rfl) (by unfold maxLen; omega) (by omega) (by have := hbw.size; simp; omega) ?_; intro v3 w3 hown3 hg3 _)
          go_wp2
          go_roundw
          case rel =>
            refine ⟨k + 1, 1, o ++ [a + 1000000000 - bo], by omega, by go_num, rfl, ?_, HN, ?_⟩
            · rw [is_snoc_n _ _ _ HV.out, List.length_append]; exact hown3
            · exact (hbw.trans (((Below.refl _ _).alloc (Nat.le_refl _) _).mono hbw.size)).grown hg3 (by have := hbw.size; simp; omega) (fun k hk => (HO.out.lt k hk).1)
          case measure => simp [intOf]; omega
        · have HN : Box (MinTo l r (k + 1) 0 (o ++ [a - bo])) := ⟨HST.out 0 _ (by omega) (by omega) (by omega)⟩
          have hd : ¬ (a : Int) - (bo : Int) < 0 := by omega
          have HV : Box ((a : Int) - (bo : Int) = ((a - bo : Nat) : Int)) := ⟨by omega⟩
          clear HST
          go_wp2_with (at_builtin; refine wpList_append_own _ rfl _ _ _ rfl w.heap.size 3 i0 (.int .i64 0) 1 8 Tryz.underlying33 hi0 hz0 hz1 hz2 rfl (by decide) _ _ _ rfl (HO.out.alloc _) ⟨wr.heap.size, 0, Option.none⟩ 1 1 [_] rfl rfl (cell_one_new _ _ _) (by intro u hu; simp at hu; subst hu; rfl) (by unfold maxLen; omega) (by omega) (by have := hbw.size; simp; omega) ?_; intro v3 w3 hown3 hg3 _)
          go_wp2
          go_roundw
          case rel =>
            refine ⟨k + 1, 0, o ++ [a - bo], by omega, by go_num, rfl, ?_, HN, ?_⟩
            · rw [is_snoc_n _ _ _ HV.out, List.length_append]; exact hown3
            · exact (hbw.trans (((Below.refl _ _).alloc (Nat.le_refl _) _).mono hbw.size)).grown hg3 (by have := hbw.size; simp; omega) (fun k hk => (HO.out.lt k hk).1)
          case measure => simp [intOf]; omega
    · obtain rfl : k = l.length := by omega
      have HV : Box (pv o = z) := ⟨HDN.out _ _ HM.out⟩
      have HPO : Box (Pcs o) := ⟨HM.out.pcs⟩
      have ht := TRow.of_own (x := nI o) (by rw [nI_len]; exact HO.out)
      obtain ⟨A3, c3, e3, _⟩ := ht.isRow
      rw [nI_len] at e3
      subst e3
      have HT := Lib.hid ht
      have HAP := Lib.hid (own_apart HO.out)
      clear ht HM HDN
      go_wp2_with fail
      go_ret
      exact ⟨⟨A3, c3, o, rfl, HT.out, HPO.out, HV.out, HAP.out.1, HAP.out.2⟩, hbw⟩

end Go.Proofs.YtjgpjhaeoiddbaaGreatDoor

namespace Go.Proofs.YtjgpjhaeoiddbaaGreatDoor
open Go.RowKit Go.Lib

/-- What the outer loop of MulW has reached. -/
structure MulOut (l r : List Nat) (k : Nat) (o : List Nat) : Prop where
  len : o.length = l.length + r.length + 1
  pcs : Pcs o
  val : pv o = pv (l.take k) * pv r
  zero : ∀ j, k + r.length ≤ j → o[j]?.getD 0 = 0
theorem MulOut.start (l r : List Nat) : MulOut l r 0 (List.replicate (l.length + r.length + 1) 0) :=
  ⟨by simp, fun x hx => by rw [List.eq_of_mem_replicate hx]; omega, by rw [pv_zeros _ (fun x hx => List.eq_of_mem_replicate hx)]; simp [pv],
   fun j _ => by rw [List.getElem?_replicate]; split <;> rfl⟩
theorem pv_pad0 (r : List Nat) (t : Nat) (h : r.length ≤ t) : pv ((r ++ [0]).take t) = pv r := by
  by_cases h1 : t = r.length
  · rw [h1, List.take_left' rfl]
  · rw [List.take_of_length_le (by simp; omega), pv_append]; simp [pv]
theorem MulOut.step {l r : List Nat} {k t : Nat} {out o : List Nat} (h : MulOut l r k out) (a : Nat) (ha : l[k]?.getD 0 = a) (hk : k < l.length) (hi : TimesIn out a k (r ++ [0]) t 0 o) (h1 : r.length ≤ t) (h2 : t ≤ r.length + 1) : MulOut l r (k + 1) o := by
  refine ⟨by rw [hi.len, h.len], hi.pcs, ?_, fun j hj => ?_⟩
  · have e := hi.val
    rw [pv_pad0 r t h1, h.val] at e
    rw [pv_take_succ l k hk, ha, Nat.add_mul]
    have e2 : a * pv r * 1000000000 ^ k = 1000000000 ^ k * a * pv r := by rw [Nat.mul_comm (a * pv r), Nat.mul_assoc]
    omega
  · rw [hi.same j (by omega)]
    exact h.zero j (by omega)
theorem pad_get (r : List Nat) (t : Nat) : (r ++ [0])[t]?.getD 0 = r[t]?.getD 0 := by
  by_cases h : t < r.length
  · rw [List.getElem?_append_left h]
  · rw [List.getElem?_append_right (by omega), List.getElem?_eq_none (by omega : r.length ≤ t)]
    by_cases h2 : t - r.length = 0
    · rw [h2]; rfl
    · rw [List.getElem?_eq_none (by simp; omega)]

theorem TRow.of_cells {w : World} {g n : Nat} {x : List Int} (h : Cells w g 3 (is x)) (hn : x.length = n) (hm : n ≤ maxLen) : TRow w (.slice (some ⟨g, 0, Option.none⟩) n n) x := by
  subst hn
  refine ⟨_, _, rfl, Nat.le_refl _, hm, fun _ => ⟨g, 0, _, _, rfl, h, fun k hk => ?_⟩⟩
  rw [Nat.zero_add, h.cell k]
  unfold is
  rw [List.getElem?_map, List.getElem?_eq_getElem hk]
  rfl
theorem made_is (n : Nat) : (madeCells (Value.int .i64 0).cells (n * 1)).toList = is (nI (List.replicate n 0)) := by
  unfold madeCells is nI Value.cells
  apply List.ext_getElem
  · simp
  · intro i h1 h2
    simp [Nat.mod_one]
theorem is_get (o : List Nat) (k : Nat) (h : k < o.length) : (is (nI o))[k]? = some (.int .i64 ((o[k]?.getD 0 : Nat) : Int)) := by
  unfold is nI
  rw [List.getElem?_map, List.getElem?_map, List.getElem?_eq_getElem h]
  rfl

set_option maxRecDepth 100000 in
set_option maxHeartbeats 4000000 in
theorem mulW_any (b1 b2 : Bool) (v1 v2 : Value) (x y : Nat) (w : World) (h1 : TRow w v1 (pcsI x)) (h2 : TRow w v2 (pcsI y)) (hx : (pcs x).length ≤ 100000) (hy : (pcs y).length ≤ 100000) :
    Calls Tryz.prog 224 #[.agg #[.bool b1, v1], .agg #[.bool b2, v2]] w fun e w' => (∃ A c, e = .returned (.agg #[.bool ((b1 != b2) && decide (0 < x * y)), .slice A (pcs (x * y)).length c]) ∧ TRow w' (.slice A (pcs (x * y)).length c) (pcsI (x * y))) ∧ Below w.heap.size w w' := by
  obtain ⟨i0, hi0, hz0, hz1, hz2⟩ := info_parts Tryz.info_int
  obtain ⟨A1, c1, rfl, _, _, r1⟩ := h1.isRow
  obtain ⟨A2, c2, rfl, _, _, r2⟩ := h2.isRow
  rw [pcsI_len] at r1 r2 ⊢
  rw [pcsI_len]
  have HP1 : Box (Pcs (pcs x)) := ⟨pcs_lt x⟩
  have HP2 : Box (Pcs (pcs y)) := ⟨pcs_lt y⟩
  have HV : Box (∀ o, MulOut (pcs x) (pcs y) (pcs x).length o → pv o = x * y) := ⟨fun o h => by rw [h.val, List.take_of_length_le (Nat.le_refl _), pv_pcs, pv_pcs]⟩
  obtain ⟨z, HZ⟩ : ∃ z, Box (x * y = z) := ⟨_, ⟨rfl⟩⟩
  rw [HZ.out] at HV ⊢
  change Row w w.heap.size 1 A1 (pcs x).length (is (nI (pcs x))) at r1
  change Row w w.heap.size 1 A2 (pcs y).length (is (nI (pcs y))) at r2
  have R1 := Lib.hid r1
  have R2 := Lib.hid r2
  clear r1 r2 h1 h2 HZ
  generalize pcs x = l at *
  generalize pcs y = r at *
  obtain ⟨n, hn⟩ : ∃ n, l.length = n := ⟨_, rfl⟩
  obtain ⟨m, hm⟩ : ∃ m, r.length = m := ⟨_, rfl⟩
  rw [hn] at hx R1 HV ⊢
  rw [hm] at hy R2 ⊢
  have HL := Lib.hid hn
  have HR := Lib.hid hm
  clear hn hm
  go_enter Tryz.func224, Tryz.ntmps224
  go_wp2_with (at_make; refine wpList_make_full _ rfl _ _ _ rfl (w.heap.size + 1 + 1 + 1) 3 i0 (.int .i64 0) 1 Tryz.underlying33 hi0 hz0 hz1 .i64 .i64 _ _ (n + m + 1) rfl rfl (by omega) (by omega) (by rw [hz2]; omega) (by unfold maxLen; omega) (by simp) ?_; intro W0 hown hg1)
  obtain ⟨W3, hW3⟩ : ∃ W3, W3 = ((w.alloc (.cells #[.bool b1, .slice A1 n c1] 151)).alloc (.cells #[.bool b2, .slice A2 m c2] 151)).alloc (.cells #[.bool false, .slice Option.none 0 0] 151) := ⟨_, rfl⟩
  have C1 : Cells W3 w.heap.size 151 [.bool b1, .slice A1 n c1] := by rw [hW3]; exact ((Cells.new w _ _).alloc _).alloc _
  have C2 : Cells W3 (w.heap.size + 1) 151 [.bool b2, .slice A2 m c2] := by
    have h := Cells.new (w.alloc (.cells #[.bool b1, .slice A1 n c1] 151)) 151 #[.bool b2, .slice A2 m c2]
    rw [World.size_alloc] at h
    rw [hW3]; exact h.alloc _
  have CR : Cells W3 (w.heap.size + 1 + 1) 151 [.bool false, .slice Option.none 0 0] := by
    have h := Cells.new ((w.alloc (.cells #[.bool b1, .slice A1 n c1] 151)).alloc (.cells #[.bool b2, .slice A2 m c2] 151)) 151 #[.bool false, .slice Option.none 0 0]
    rw [World.size_alloc, World.size_alloc] at h
    rw [hW3]; exact h
  have hbw3 : Below w.heap.size w W3 := by rw [hW3]; exact (((Below.refl _ _).alloc (Nat.le_refl _) _).alloc (by simp) _).alloc (by simp; omega) _
  have HSZ : Box (W3.heap.size = w.heap.size + 1 + 1 + 1) := ⟨by rw [hW3]; simp⟩
  rw [← hW3] at hown hg1
  clear hW3
  simp only [HSZ.out] at hown
  have hc0 : Cells W0 (w.heap.size + 1 + 1 + 1) 3 (is (nI (List.replicate (n + m + 1) 0))) := Cells.of_full (by rw [← made_is]; exact hown)
  have hb0 : Below W3.heap.size W3 W0 := (Below.refl _ _).grown hg1 (Nat.le_refl _) (by simp)
  replace C1 := Lib.hid (C1.below hb0 C1.lt)
  replace C2 := Lib.hid (C2.below hb0 C2.lt)
  replace CR := Lib.hid (CR.below hb0 CR.lt)
  have HBW := Lib.hid (hbw3.trans (hb0.mono hbw3.size))
  have HSZ2 : Box (W3.heap.size ≤ W0.heap.size) := ⟨hb0.size⟩
  have HC0 := Lib.hid hc0
  clear hown hb0 hbw3 hc0
  rw [HSZ.out] at HSZ2
  clear HSZ hg1 W3
  obtain ⟨g, hg⟩ : ∃ g, w.heap.size + 1 + 1 + 1 = g := ⟨_, rfl⟩
  rw [hg] at HSZ2 HC0
  rw [hg]
  have hgw : w.heap.size + 2 < g := by omega
  clear hg
  go_loopw [6] (fun iv wr => ∃ (k : Nat) (o : List Nat), k ≤ n ∧ iv = .int .i64 k ∧ Box (MulOut l r k o) ∧ Cells wr g 3 (is (nI o)) ∧ Below g W0 wr) (fun iv _ => n - (intOf iv).toNat)
  case atStart => exact ⟨0, _, Nat.zero_le _, rfl, ⟨by have h := MulOut.start l r; rw [HL.out, HR.out] at h; exact h⟩, HC0.out, Below.refl _ _⟩
  case round =>
    clear HC0
    obtain ⟨k, o, hk, rfl, HM, hcl, hbk⟩ := hrel
    have hbx := HBW.out.trans (hbk.mono (by omega))
    have D1 := C1.out.below hbk (by omega)
    have D2 := C2.out.below hbk (by omega)
    have p0 := D1.cell 0
    have p1 := D1.cell 1
    have q0 := D2.cell 0
    have q1 := D2.cell 1
    simp only [List.getElem?_cons_succ, List.getElem?_cons_zero] at p0 p1 q0 q1
    clear D1 D2
    by_cases hlt : k < n
    · obtain ⟨ad1, rfl, _, _⟩ := (R1.out.below hbx (Nat.le_refl _)).n_at hlt
      have hal : l[k]?.getD 0 < 1000000000 := pcs_getD HP1.out k
      obtain ⟨a, ha⟩ : ∃ a, l[k]?.getD 0 = a := ⟨_, rfl⟩
      rw [ha] at hal
      have HA := Lib.hid ha
      have HCL := Lib.hid hcl
      have HBK := Lib.hid hbk
      clear ha hbx hcl hbk
      go_wp2
      obtain ⟨wo, rfl⟩ : ∃ wo : World, wo = wr := ⟨_, rfl⟩
      go_loopw [7, 8] (fun cv jv wr => ∃ (t cy : Nat) (o2 : List Nat), t ≤ m + 1 ∧ jv = .int .i64 t ∧ cv = .int .i64 cy ∧ Box (t = m + 1 → cy = 0) ∧ Box (TimesIn o a k (r ++ [0]) t cy o2) ∧ Cells wr g 3 (is (nI o2)) ∧ Below g W0 wr) (fun _ jv _ => m + 1 - (intOf jv).toNat)
      case atStart => exact ⟨0, 0, o, Nat.zero_le _, rfl, rfl, ⟨fun _ => rfl⟩, ⟨times_in_start _ _ _ _ HM.out.pcs⟩, HCL.out, HBK.out⟩
      case round =>
        clear HCL HBK p0 p1 q0 q1
        obtain ⟨t, cy, o2, htm, rfl, rfl, HT0, HTI, hcl, hbk⟩ := hrel
        have hcy := HTI.out.small
        have HO : Box (o2.length = n + m + 1) := ⟨by rw [HTI.out.len, HM.out.len, HL.out, HR.out]⟩
        have hbx := HBW.out.trans (hbk.mono (by omega))
        have D1 := C1.out.below hbk (by omega)
        have D2 := C2.out.below hbk (by omega)
        have p0 := D1.cell 0
        have p1 := D1.cell 1
        have q0 := D2.cell 0
        have q1 := D2.cell 1
        simp only [List.getElem?_cons_succ, List.getElem?_cons_zero] at p0 p1 q0 q1
        clear D1 D2
        by_cases htl : t < m
        · obtain ⟨_, e1, _, hca⟩ := (R1.out.below hbx (Nat.le_refl _)).n_at hlt
          injection e1 with e1
          subst e1
          obtain ⟨ad2, rfl, _, hcb⟩ := (R2.out.below hbx (Nat.le_refl _)).n_at htl
          rw [HA.out] at hca
          have hbl : r[t]?.getD 0 < 1000000000 := pcs_getD HP2.out t
          have hco := hcl.cell (k + t)
          rw [is_get o2 (k + t) (by rw [HO.out]; omega)] at hco
          have hxl : o2[k + t]?.getD 0 < 1000000000 := pcs_getD HTI.out.pcs _
          have HST : Box (TimesIn o a k (r ++ [0]) (t + 1) ((cy + (o2[k + t]?.getD 0 + a * r[t]?.getD 0)) / 1000000000) (o2.set (k + t) ((cy + (o2[k + t]?.getD 0 + a * r[t]?.getD 0)) % 1000000000))) := ⟨times_in_step HTI.out _ _ rfl (pad_get r t) (by rw [List.length_append, HR.out]; omega) (by rw [HM.out.len, HL.out, HR.out]; omega) hal hbl⟩
          generalize r[t]?.getD 0 = b at *
          generalize o2[k + t]?.getD 0 = xv at *
          have hfo := hcl.free (k + t)
          have hab : a * b ≤ 999999999 * 999999999 := Nat.mul_le_mul (by omega) (by omega)
          have hab1 : (a : Int) * (b : Int) ≤ 999999998000000001 := by
            have : ((a * b : Nat) : Int) ≤ 999999998000000001 := by omega
            rwa [Int.natCast_mul] at this
          have hab0 : 0 ≤ (a : Int) * (b : Int) := by rw [← Int.natCast_mul]; omega
          have hk0 : (0 : Int) ≤ (k : Int) := by omega
          have hk1 : (k : Int) < (n : Int) := by omega
          have ht0 : (0 : Int) ≤ (t : Int) := by omega
          have ht1 : (t : Int) < (m : Int) := by omega
          have HCL := Lib.hid hcl
          have HBK := Lib.hid hbk
          clear hab hbx hcl hbk
          go_wp2
          go_quiet (fail)
          go_wp2
          go_roundw
          case rel =>
            refine ⟨t + 1, _, _, by omega, by go_num, ?_, ⟨fun h => by omega⟩, HST, ?_, (below_drewN HBK.out _).setCell (Nat.le_refl _) _⟩
            · go_num
            · exact cells_set_n (HCL.out.drewN _) _ _ _ (by simp [Int.add_assoc])
          case measure => simp [intOf]; omega
        · by_cases h0 : 0 < cy
          · obtain rfl : t = m := by
              have := HT0.out
              omega
            have hx0 : o2[k + t]?.getD 0 = 0 := by rw [HTI.out.same (k + t) (Nat.le_refl _)]; exact HM.out.zero (k + t) (by rw [HR.out]; exact Nat.le_refl _)
            have hco := hcl.cell (k + t)
            rw [is_get o2 (k + t) (by rw [HO.out]; omega), hx0] at hco
            have hfo := hcl.free (k + t)
            have HST : Box (TimesIn o a k (r ++ [0]) (t + 1) 0 (o2.set (k + t) cy)) := ⟨by
              have h := times_in_step HTI.out 0 0 hx0 (by rw [pad_get, List.getElem?_eq_none (by rw [HR.out]; exact Nat.le_refl _)]; rfl) (by rw [List.length_append, HR.out]; simp) (by rw [HM.out.len, HL.out, HR.out]; omega) hal (by omega)
              simp only [Nat.mul_zero, Nat.add_zero, Nat.div_eq_of_lt hcy, Nat.mod_eq_of_lt hcy] at h
              exact h⟩
            have hk0 : (0 : Int) ≤ (k : Int) := by omega
            have hk1 : (k : Int) < (n : Int) := by omega
            have ht0 : (0 : Int) ≤ (t : Int) := by omega
            have hcc : (0 : Int) < (cy : Int) := by omega
            have hm1 : (cy : Int) % 1000000000 = (cy : Int) := by omega
            have hm2 : (cy : Int) / 1000000000 = 0 := by omega
            have HCL := Lib.hid hcl
            have HBK := Lib.hid hbk
            clear hx0 hbx hcl hbk
            go_wp2
            go_roundw
            case rel =>
              refine ⟨t + 1, 0, _, by omega, by go_num, ?_, ⟨fun _ => rfl⟩, HST, ?_, (HBK.out).setCell (Nat.le_refl _) _⟩
              · go_num
              · exact cells_set_n HCL.out _ _ _ (by simp)
            case measure => (simp [intOf]; try omega)
          · obtain rfl : cy = 0 := by omega
            have HN : Box (MulOut l r (k + 1) o2) := ⟨HM.out.step a HA.out (by rw [HL.out]; exact hlt) HTI.out (by rw [HR.out]; omega) (by rw [HR.out]; omega)⟩
            have ht0 : ¬ (t : Int) < (m : Int) := by omega
            have HCL := Lib.hid hcl
            have HBK := Lib.hid hbk
            clear hbx hcl hbk
            go_wp2
            go_roundw
            case rel => exact ⟨k + 1, o2, by omega, by go_num, HN, HCL.out, HBK.out⟩
            case measure => simp [intOf]; omega
    · obtain rfl : k = n := by omega
      have HVO : Box (pv o = z) := ⟨HV.out o HM.out⟩
      have hol : o.length = k + m + 1 := by rw [HM.out.len, HL.out, HR.out]
      have ht := TRow.of_cells (n := k + m + 1) hcl (by rw [nI_len]; exact hol) (by unfold maxLen; omega)
      have HTR := Lib.hid (trim03_pcs (b1 != b2) _ _ _ o wr hol ht HM.out.pcs)
      rw [HVO.out] at HTR
      have HCR := Lib.hid (CR.out.below hbk (by omega))
      have HBX := Lib.hid hbx
      clear hbx hcl hbk ht hol HVO HV HM
      go_wp2_with fail
      refine HTR.out.mono ?_
      rintro e w5 ⟨rfl, ht5, hb5⟩
      have HT5 := Lib.hid ht5
      have CR5 := HCR.out.below hb5 HCR.out.lt
      have HCR5 := Lib.hid CR5
      have r0 := CR5.cell 0
      have r1 := CR5.cell 1
      have s0 := CR5.free 0
      have s1 := CR5.free 1
      simp only [List.getElem?_cons_succ, List.getElem?_cons_zero] at r0 r1
      have hbn := HBX.out.trans (hb5.mono HBX.out.size)
      clear hb5 CR5 ht5 p0 p1 q0 q1
      go_wp2_with fail
      refine bodyPost_ret (v := .agg #[.bool ((b1 != b2) && decide (0 < z)), .slice (some ⟨g, 0, Option.none⟩) (pcs z).length (k + m + 1)]) (by simp [results, Tryz.results224, go_sem, r0, r1]) rfl ⟨⟨_, _, rfl, ?_⟩, ?_⟩
      · exact (HT5.out.set HCR5.out (by decide) _).set (HCR5.out.set 0 _) (by decide) _
      · exact (hbn.setCell (by show w.heap.size ≤ w.heap.size + 1 + 1; omega) _).setCell (by show w.heap.size ≤ w.heap.size + 1 + 1; omega) _

end Go.Proofs.YtjgpjhaeoiddbaaGreatDoor

namespace Go.Proofs.YtjgpjhaeoiddbaaGreatDoor
open Go.RowKit Go.Lib

theorem pv_one (d : Nat) : pv [d] = d := by simp [pv]

set_option maxRecDepth 100000 in
set_option maxHeartbeats 1000000 in
theorem times03_any (v : Value) (y d : Nat) (w : World) (hv : TRow w v (pcsI y)) (hd : d < 1000000000) (hy : (pcs y).length ≤ 100000) :
    Calls Tryz.prog 188 #[v, .int .i64 d] w fun e w' => (∃ A c, e = .returned (.slice A (pcs (y * d)).length c) ∧ TRow w' (.slice A (pcs (y * d)).length c) (pcsI (y * d))) ∧ Below w.heap.size w w' := by
  have hpd : Pcs [d] := fun x hx => by rw [List.mem_singleton] at hx; omega
  have hba : Below w.heap.size w (w.alloc (.cells #[.int .i64 (d : Int)] 3)) := (Below.refl _ _).alloc (Nat.le_refl _) _
  have ht : TRow (w.alloc (.cells #[.int .i64 (d : Int)] 3)) (.slice (some ⟨w.heap.size, 0, Option.none⟩) 1 1) (nI [d]) := TRow.of_cells (Cells.new w 3 #[.int .i64 (d : Int)]) rfl (by unfold maxLen; omega)
  have HTR := Lib.hid (trim03_pcs false _ _ 1 [d] _ rfl ht hpd)
  rw [pv_one, Bool.false_and] at HTR
  have hpl : (pcs d).length ≤ 100000 := by
    have h := pcs_len_le 1 d (by simpa using hd)
    omega
  have HM := Lib.hid (fun v2 W h1 h2 => mulW_any false false v v2 y d W h1 h2 hy hpl)
  rw [show ((false != false) && decide (0 < y * d)) = false from rfl] at HM
  have HV := Lib.hid hv
  obtain ⟨A1, c1, rfl, _⟩ := hv
  rw [pcsI_len] at HM HV ⊢
  have HBA := Lib.hid hba
  obtain ⟨z, hz⟩ : ∃ z, y * d = z := ⟨_, rfl⟩
  rw [hz] at HM ⊢
  clear hba ht hpd hd hy hpl hz
  generalize (pcs y).length = n at *
  have hfd : ∀ (W : World) (a b : Value), (Instr.field 151 (.agg #[a, b]) 1).run Tryz.prog W = .ok b W := fun _ _ _ => by kernel_rfl
  go_enter Tryz.func188, Tryz.ntmps188
  go_wp2_with fail
  refine HTR.out.mono ?_
  rintro e w5 ⟨rfl, ht5, hb5⟩
  have hbn := HBA.out.trans (hb5.mono HBA.out.size)
  have HT5 := Lib.hid ht5
  have HBN := Lib.hid hbn
  clear ht5 hb5 hbn
  go_wp2_with fail
  refine (HM.out _ _ (HV.out.below HBN.out) HT5.out).mono ?_
  rintro e w6 ⟨⟨A, c, rfl, ht6⟩, hb6⟩
  have HT6 := Lib.hid ht6
  have hbn := HBN.out.trans (hb6.mono HBN.out.size)
  clear ht6 hb6
  go_wp2_with fail
  go_ret
  exact ⟨⟨A, c, rfl, HT6.out⟩, hbn⟩

end Go.Proofs.YtjgpjhaeoiddbaaGreatDoor

namespace Go.Proofs.YtjgpjhaeoiddbaaGreatDoor
open Go.RowKit Go.Lib

/-- What divide has reached: the pieces from k on are divided. -/
structure DivTo (l : List Nat) (y k : Nat) (o : List Nat) (rr : Nat) : Prop where
  len : o.length = l.length
  pcs : Pcs o
  small : rr < y
  val : pv (o.drop k) * y + rr = pv (l.drop k)
  zero : ∀ j, j < k → o[j]?.getD 0 = 0
theorem DivTo.start (l : List Nat) (y : Nat) (hy : 0 < y) : DivTo l y l.length (List.replicate l.length 0) 0 :=
  ⟨by simp, fun x hx => by rw [List.eq_of_mem_replicate hx]; omega, hy, by rw [List.drop_of_length_le (by simp), List.drop_of_length_le (Nat.le_refl _)]; simp [pv], fun j _ => by rw [List.getElem?_replicate]; split <;> rfl⟩
theorem drop_set_self (o : List Nat) (j d : Nat) : (o.set j d).drop (j + 1) = o.drop (j + 1) := by
  rw [List.drop_set]
  simp
theorem DivTo.step {l o : List Nat} {y j rr : Nat} (h : DivTo l y (j + 1) o rr) (hj : j < l.length) (a d r2 : Nat) (ha : l[j]?.getD 0 = a) (hd : d < 1000000000) (he : d * y + r2 = a + 1000000000 * rr) (hr : r2 < y) : DivTo l y j (o.set j d) r2 := by
  have hjo : j < o.length := by rw [h.len]; exact hj
  refine ⟨by simp [h.len], pcs_set h.pcs hd, hr, ?_, fun i hi => ?_⟩
  · rw [pv_drop _ _ (by simp; exact hjo), drop_set_self, pv_drop _ _ hj, ha]
    have e := h.val
    have e2 : (o.set j d)[j]?.getD 0 = d := by rw [List.getElem?_set_self hjo]; rfl
    rw [e2]
    generalize pv (o.drop (j + 1)) = Q at *
    generalize pv (l.drop (j + 1)) = P at *
    rw [← e, Nat.add_mul, Nat.mul_add]
    have e3 : 1000000000 * Q * y = 1000000000 * (Q * y) := Nat.mul_assoc _ _ _
    rw [e3]
    omega
  · rw [List.getElem?_set_ne (by omega)]
    exact h.zero i (by omega)
theorem DivTo.skip {l o : List Nat} {y j rr : Nat} (h : DivTo l y (j + 1) o rr) (hj : j < l.length) (a : Nat) (ha : l[j]?.getD 0 = a) (hr : a + 1000000000 * rr < y) : DivTo l y j o (a + 1000000000 * rr) := by
  have hjo : j < o.length := by rw [h.len]; exact hj
  have h2 := h.step hj a 0 (a + 1000000000 * rr) ha (by omega) (by omega) hr
  have e : o.set j 0 = o := by
    apply List.ext_getElem?
    intro i
    by_cases hi : j = i
    · subst hi
      rw [List.getElem?_set_self hjo]
      have := h.zero j (by omega)
      rw [List.getElem?_eq_getElem hjo] at this ⊢
      simpa using this.symm
    · rw [List.getElem?_set_ne hi]
  rw [e] at h2
  exact h2
theorem DivTo.done {x y rr : Nat} {o : List Nat} (h : DivTo (Go.Proofs.YtjgpjhaeoiddbaaGreatDoor.pcs x) y 0 o rr) : pv o = x / y ∧ rr = x % y := by
  have e := h.val
  rw [List.drop_zero, List.drop_zero, pv_pcs] at e
  have hy : 0 < y := by have := h.small; omega
  constructor
  · rw [← e, Nat.add_comm, Nat.mul_comm, Nat.add_mul_div_left _ _ hy, Nat.div_eq_of_lt h.small, Nat.zero_add]
  · rw [← e, Nat.add_comm, Nat.mul_comm, Nat.add_mul_mod_self_left, Nat.mod_eq_of_lt h.small]
theorem pv_cons (a : Nat) (l : List Nat) : pv (a :: l) = a + 1000000000 * pv l := rfl
theorem cmpN_lt {x y : Nat} (h : x < y) : cmpN x y = -1 := by unfold cmpN; rw [if_pos h]
theorem cmpN_ge {x y : Nat} (h : y ≤ x) : 0 ≤ cmpN x y := by unfold cmpN; rw [if_neg (by omega)]; split <;> decide
theorem cmpN_le {x y : Nat} (h : x ≤ y) : cmpN x y ≤ 0 := by
  unfold cmpN
  by_cases h1 : x < y
  · rw [if_pos h1]; decide
  · rw [if_neg h1, if_pos (by omega)]; decide
theorem cmpN_gt {x y : Nat} (h : y < x) : cmpN x y = 1 := by unfold cmpN; rw [if_neg (by omega), if_neg (by omega)]
theorem TRow.nil0 (w : World) : TRow w (.slice Option.none 0 0) [] := ⟨_, _, rfl, Nat.le_refl _, Nat.zero_le _, fun h => by simp at h⟩
theorem pcs_len_one {x : Nat} (h : (Go.Proofs.YtjgpjhaeoiddbaaGreatDoor.pcs x).length = 1) : 0 < x ∧ x < 1000000000 ∧ Go.Proofs.YtjgpjhaeoiddbaaGreatDoor.pcs x = [x] := by
  rcases Nat.eq_zero_or_pos x with h0 | h0
  · subst h0; rw [pcs_zero] at h; cases h
  · have hl := pv_lt _ (pcs_lt x)
    rw [pv_pcs, h] at hl
    refine ⟨h0, by simpa using hl, pcs_small h0 (by simpa using hl)⟩

/-- append of a row that may be nil, to a slice that the call owns. -/
theorem wpList_append_own_opt {P : Program} {w : World} {ops : Array Oper} {rest : List Oper} {o : Oper} {a : Act} {Q : Exit → Act → World → Prop} (hgd : o.guard = Option.none) (s x : Operand) (t : TypeId)
    (ho : o.op = .call { callee := .builtin .append, args := #[s, x], argTypes := #[t, t] })
    (base : Nat) (e : TypeId) (i : TypeInfo) (z : Value) (size bytes : Nat) (ht : P.underlying t = some (.slice e)) (hi : P.info? e = some i) (hz : i.zero = some z)
    (hsize : i.size = size) (hby : i.bytes = bytes) (hzs : z.cells.size = size) (hsz : 0 < size)
    (v : Value) (n : Nat) (xs : List Value) (hs : a.eval s = v) (hown : w.ownsRow base e size v n xs)
    (ao : Option Addr) (m c : Nat) (news : List Value) (hx : a.eval x = .slice ao m c) (hl : news.length = m * size) (hnone : ao = Option.none → m = 0 ∧ c = 0) (hnews : ∀ ad, ao = some ad → ∀ (j : Nat) u, news[j]? = some u → w.cell? (ad.add j) = some u) (h1 : ∀ u ∈ news, u.oneCell' = true)
    (h63 : n + m ≤ maxLen) (hbytes : (n + m) * bytes ≤ 140737488355328) (hbase : base ≤ w.heap.size)
    (h : ∀ v' w', w'.ownsRow base e size v' (n + m) (xs ++ news) → w.grownBy w' v.ownBlock → wpList P ops Q rest (a.put o.dst v') w') : wpList P ops Q (o :: rest) a w := by
  cases ao with
  | some ad => exact wpList_append_own w hgd s x t ho base e i z size bytes ht hi hz hsize hby hzs hsz v n xs hs hown ad m c news hx hl (hnews ad rfl) h1 h63 hbytes hbase fun v' w' h2 h3 _ => h v' w' h2 h3
  | none =>
    obtain ⟨rfl, rfl⟩ := hnone rfl
    have hn : news = [] := List.eq_nil_of_length_eq_zero (by simpa using hl)
    subst hn
    refine wpList_append_own_none hgd s x t ho base e i size ht hi v n xs hs hown hx (h v w ?_ ⟨rfl, rfl, rfl, Nat.le_refl _, fun _ _ _ => rfl⟩)
    rw [List.append_nil]
    exact hown
theorem TRow.cells_alloc {w : World} {A : Option Addr} {n c : Nat} {x : List Int} (h : TRow w (.slice A n c) x) (o : Obj) : ∀ ad, A = some ad → ∀ (j : Nat) u, (is x)[j]? = some u → (w.alloc o).cell? (ad.add j) = some u := by
  intro ad hA j u hu
  obtain ⟨A', c', e, _, _, hr⟩ := h.isRow
  injection e with e1 _ _
  subst e1
  obtain ⟨ad', e2, hb, hc⟩ := hr.get j u hu
  rw [hA] at e2
  injection e2 with e2
  subst e2
  exact (World.cell?_alloc_lt w o _ (by rw [add_block]; exact hb)).trans hc
theorem TRow.set_apart {w : World} {A : Option Addr} {n c : Nat} {x : List Int} (h : TRow w (.slice A n c) x) {g k : Nat} (hA : ∀ ad, A = some ad → g < ad.block) (u : Value) : TRow (w.setCell ⟨g, k, Option.none⟩ u) (.slice A n c) x := by
  obtain ⟨A', c', e, h1, h2, h3⟩ := h
  injection e with e1 e2 e3
  subst e1 e2 e3
  refine ⟨A, c, rfl, h1, h2, fun h0 => ?_⟩
  obtain ⟨g', o, cur, p, hA', hg, hc⟩ := h3 h0
  have hne := hA _ hA'
  refine ⟨g', o, cur, p, hA', (Below.heap_setCell _ _ _ _ (by show g' ≠ g; change g < g' at hne; omega)).trans hg, fun k hk => ?_⟩
  exact (World.cell?_setCell_far _ _ _ _ (by show g ≠ g'; change g < g' at hne; omega)).trans (hc k hk)
theorem TRow.one_cell {w : World} {A : Option Addr} {c : Nat} {z : Int} (h : TRow w (.slice A 1 c) [z]) : ∃ g o, A = some ⟨g, o, Option.none⟩ ∧ w.cell? ⟨g, o, Option.none⟩ = some (.int .i64 z) := by
  obtain ⟨A', c', e, _, _, h3⟩ := h
  injection e with e1 _ _
  subst e1
  obtain ⟨g, o, cur, p, hA, _, hc⟩ := h3 (by simp)
  exact ⟨g, o, hA, hc 0 (by simp)⟩
theorem TRow.none_zero {w : World} {n c : Nat} {x : List Int} (h : TRow w (.slice Option.none n c) x) : n = 0 := by
  obtain ⟨A, c', e, _, _, h0⟩ := h
  injection e with e1 e2 _
  subst e1
  rcases Nat.eq_zero_or_pos x.length with h1 | h1
  · rw [e2, h1]
  · obtain ⟨g, o, cur, p, hA, _⟩ := h0 h1
    cases hA

end Go.Proofs.YtjgpjhaeoiddbaaGreatDoor
