/- The constants of schismalaw29.known. target.Integer over right primes: the walk (begun). schismalaw29.known. -/
import Derived.Test.YtcfkclafpbaagaaGreatDoorGTM
import Derived.Test.YtcfkclafpbaagaaGreatDoorGTL
import Derived.Test.YtcfkclafpbaagaaGreatDoorGTI
import Derived.Test.YtcfkclafpbaagaaGreatDoorREqG
namespace Go.Proofs.YtcfkclafpbaagaaGreatDoor
open Go.RowKit Go.Lib

/-! Forms that the kernel can evaluate. -/
def leftF : Nat → Nat → Nat → Nat
  | 0, _, n => n
  | f + 1, p, n => if 2 ≤ p ∧ 0 < n ∧ n % p = 0 then leftF f p (n / p) else n
def multF : Nat → Nat → Nat → Nat
  | 0, _, _ => 0
  | f + 1, p, n => if 2 ≤ p ∧ 0 < n ∧ n % p = 0 then multF f p (n / p) + 1 else 0
theorem left_F : ∀ f p n, n ≤ f → left p n = leftF f p n
  | 0, p, n, h => by
    rw [left_no (by omega)]
    rfl
  | f + 1, p, n, h => by
    unfold leftF
    by_cases hc : 2 ≤ p ∧ 0 < n ∧ n % p = 0
    · have := Nat.div_lt_self hc.2.1 (show 1 < p by omega)
      rw [if_pos hc, left_yes hc, left_F f p (n / p) (by omega)]
    · rw [if_neg hc, left_no hc]
theorem mult_F : ∀ f p n, n ≤ f → mult p n = multF f p n
  | 0, p, n, h => by
    rw [mult_no (by omega)]
    rfl
  | f + 1, p, n, h => by
    unfold multF
    by_cases hc : 2 ≤ p ∧ 0 < n ∧ n % p = 0
    · have := Nat.div_lt_self hc.2.1 (show 1 < p by omega)
      rw [if_pos hc, mult_yes hc, mult_F f p (n / p) (by omega)]
    · rw [if_neg hc, mult_no hc]
def leftToF (p : List Int) (n : Nat) : Nat → Nat
  | 0 => n
  | k + 1 => leftF (leftToF p n k) (p[k]?.getD 0).toNat (leftToF p n k)
theorem leftTo_F (p : List Int) (n : Nat) : ∀ k, leftTo p n k = leftToF p n k
  | 0 => rfl
  | k + 1 => by rw [leftTo, leftToF, leftTo_F p n k, left_F _ _ _ (Nat.le_refl _)]
def expsToF (p : List Int) (n d : Nat) : Nat → List Int
  | 0 => []
  | k + 1 => expsToF p n d k ++ [(multF (leftToF p n k) (p[k]?.getD 0).toNat (leftToF p n k) : Int) - (multF (leftToF p d k) (p[k]?.getD 0).toNat (leftToF p d k) : Int)]
theorem expsTo_F (p : List Int) (n d : Nat) : ∀ k, expsTo p n d k = expsToF p n d k
  | 0 => rfl
  | k + 1 => by rw [expsTo, expsToF, expsTo_F p n d k, leftTo_F, leftTo_F, mult_F _ _ _ (Nat.le_refl _), mult_F _ _ _ (Nat.le_refl _)]
def smToF (p : List Int) : Nat → List Int
  | 0 => []
  | k + 1 => if (decide (leftToF p (k + 1) p.length = 1) && decide (leftToF p 1 p.length = 1)) = true then smToF p k ++ [((k + 1 : Nat) : Int)] else smToF p k
theorem smTo_F (p : List Int) : ∀ k, smTo p k = smToF p k
  | 0 => rfl
  | k + 1 => by rw [smTo, smToF, smTo_F p k, smB, leftTo_F, leftTo_F]
theorem numR_F (p : List Int) (z : Int) : numR p z = expsToF p z.toNat 1 p.length := by unfold numR; rw [expsTo_F]
theorem numsR_F (p l : List Int) : numsR p l = l.map fun z => expsToF p z.toNat 1 p.length := List.map_congr_left fun z _ => numR_F p z

theorem smR_of {p x : List Int} (h : x.length = p.length) (hx : ∀ z ∈ x, z.natAbs ≤ 9) : SmR p x := by
  have h9 : ∀ i : Nat, (x[i]?.getD 0).natAbs ≤ 9 := fun i => by
    by_cases hi : i < x.length
    · rw [List.getElem?_eq_getElem hi]; exact hx _ (List.getElem_mem hi)
    · rw [List.getElem?_eq_none (by omega)]; decide
  exact ⟨h, by have := h9 0; omega, fun i _ => h9 i⟩

/-! 2.3.5 -/
theorem kt0 : ∃ a A, TabOk [2, 3, 5] a A := tabOk 0
theorem kt5 : ∃ a A, TabOk [3, 5, 7] a A := tabOk 5
def kM : List (List Int) := [[0, 0, -1], [0, -1, 0], [0, 1, -1], [0, 0, 0], [0, -1, 1], [0, 1, 0], [0, 0, 1]]
def kO : List (List Int) := [[1, 1, -1], [-2, 0, 1], [2, -1, 0], [-1, 1, 0], [3, 0, -1], [0, -1, 1]]
def kL : List (List Int) := [[1, 1, -1], [-2, 0, 1], [2, -1, 0]]
def kI : List (List Int) := [[-2, 0, 1], [2, -1, 0], [-1, 1, 0], [0, -1, 1], [1, 0, 0], [-1, 0, 1], [0, 1, 0], [2, 0, 0], [0, 0, 1]]
def kM2 : List (List Int) := [[0, 1, -1], [0, 0, 0], [0, -1, 1]]
def kD : List (List Int) := [[0, -1, 1], [1, 1, -1]]
theorem kc_sm : smTo [2, 3, 5] 5 = [1, 2, 3, 4, 5] := by rw [smTo_F]; decide +kernel
theorem kc_odd : oddZ (smTo [2, 3, 5] 5) = [1, 3, 5] := by rw [kc_sm]; decide +kernel
theorem kc_n1 : numsR [2, 3, 5] [1, 3, 5] = [[0, 0, 0], [0, 1, 0], [0, 0, 1]] := by rw [numsR_F]; decide +kernel
theorem kc_ok1 : NumsOk [2, 3, 5] [1, 3, 5] := by
  intro z hz
  rw [smB, leftTo_F, leftTo_F]
  have : ∀ z ∈ ([1, 3, 5] : List Int), 1 ≤ z ∧ z ≤ 99 ∧ (decide (leftToF [2, 3, 5] z.toNat 3 = 1) && decide (leftToF [2, 3, 5] 1 3 = 1)) = true := by decide +kernel
  exact this z hz
theorem kc_m1 : onceL [2, 3, 5] (prsR [[0, 0, 0], [0, 1, 0], [0, 0, 1]]) = kM := by decide +kernel
theorem kc_o : onceL [2, 3, 5] (selsW [2, 3, 5] (rOf [2, 3, 5]) (cOf [2, 3, 5]) kM kM.length) = kO := by decide +kernel
theorem kc_l : onceL [2, 3, 5] (selsL [2, 3, 5] (rOf [2, 3, 5]) (cOf [2, 3, 5]) kO kO.length) = kL := by decide +kernel
theorem kc_p1 : PrsOk [2, 3, 5] [[0, 0, 0], [0, 1, 0], [0, 0, 1]] := ⟨by decide, by decide +kernel, by decide +kernel⟩
theorem kc_n2 : rowsM [2, 3, 5] 5 = [[0, 0, 0], [1, 0, 0], [0, 1, 0], [2, 0, 0], [0, 0, 1]] := by
  unfold rowsM
  rw [kc_sm, ← (show numsR [2, 3, 5] [1, 2, 3, 4, 5] = ([1, 2, 3, 4, 5] : List Int).map (fun z => expsTo [2, 3, 5] z.toNat 1 ([2, 3, 5] : List Int).length) from rfl), numsR_F]
  decide +kernel
theorem kc_p2 : PrsOk [2, 3, 5] [[0, 0, 0], [1, 0, 0], [0, 1, 0], [2, 0, 0], [0, 0, 1]] := ⟨by decide, by decide +kernel, by decide +kernel⟩
def kF (x : List Int) : Bool := decide (0 < cmpN (num [2, 3, 5] x) (den [2, 3, 5] x))
theorem kc_i : (onceL [2, 3, 5] (prsR [[0, 0, 0], [1, 0, 0], [0, 1, 0], [2, 0, 0], [0, 0, 1]])).filter kF = kI := by decide +kernel
theorem kc_ic : ∀ x ∈ onceL [2, 3, 5] (prsR [[0, 0, 0], [1, 0, 0], [0, 1, 0], [2, 0, 0], [0, 0, 1]]), chkAll [2, 3, 5] [x] = 0 := by decide +kernel
theorem kc_n3 : numsR [3, 5, 7] [5, 7] = [[0, 1, 0], [0, 0, 1]] := by rw [numsR_F]; decide +kernel
theorem kc_ok3 : NumsOk [3, 5, 7] [5, 7] := by
  intro z hz
  rw [smB, leftTo_F, leftTo_F]
  have : ∀ z ∈ ([5, 7] : List Int), 1 ≤ z ∧ z ≤ 99 ∧ (decide (leftToF [3, 5, 7] z.toNat 3 = 1) && decide (leftToF [3, 5, 7] 1 3 = 1)) = true := by decide +kernel
  exact this z hz
theorem kc_p3 : PrsOk [3, 5, 7] [[0, 1, 0], [0, 0, 1]] := ⟨by decide, by decide +kernel, by decide +kernel⟩
theorem kc_m3 : onceL [3, 5, 7] (prsR [[0, 1, 0], [0, 0, 1]]) = kM2 := by decide +kernel
theorem kc_d : onceL [3, 5, 7] (selsW [3, 5, 7] (rOf [3, 5, 7]) (cOf [3, 5, 7]) kM2 kM2.length) = kD := by decide +kernel
theorem kr1 : ∀ x ∈ kM, SmR [2, 3, 5] x := fun x hx => smR_of ((show ∀ x ∈ kM, x.length = 3 by decide) x hx) ((show ∀ x ∈ kM, ∀ z ∈ x, z.natAbs ≤ 9 by decide) x hx)
theorem kr2 : ∀ x ∈ kO, SmR [2, 3, 5] x := fun x hx => smR_of ((show ∀ x ∈ kO, x.length = 3 by decide) x hx) ((show ∀ x ∈ kO, ∀ z ∈ x, z.natAbs ≤ 9 by decide) x hx)
theorem kr3 : ∀ x ∈ kM2, SmR [3, 5, 7] x := fun x hx => smR_of ((show ∀ x ∈ kM2, x.length = 3 by decide) x hx) ((show ∀ x ∈ kM2, ∀ z ∈ x, z.natAbs ≤ 9 by decide) x hx)
theorem kcl : chkAll [2, 3, 5] kO = 0 := by decide +kernel

/-! The calls. -/
theorem kDiamond1 (pv lv : Value) (W : World) (hS : Std W) (hp : IsRow W W.heap.size pv [2, 3, 5]) (hl : IsRow W W.heap.size lv [1, 3, 5]) :
    Calls Tryz.prog 28 #[pv, lv] W fun e w' => ListPost kO e w' ∧ Below W.heap.size W w' := by
  obtain ⟨a, A, hT⟩ := kt0
  have h := diamond_ok pv lv [2, 3, 5] [1, 3, 5] 2 (rOf [2, 3, 5]) (cOf [2, 3, 5]) W hS hp hT.pe hl (by decide) kc_ok1 (by rw [kc_n1]; exact kc_p1) (by rw [kc_n1, kc_m1]; exact rdsOk_sm hT kr1)
  rw [kc_n1, kc_m1, kc_o] at h
  exact h
theorem kOdd1 (pv : Value) (W : World) (hS : Std W) (hp : IsRow W W.heap.size pv [2, 3, 5]) :
    Calls Tryz.prog 22 #[pv, .int .i64 5] W fun e w' => ListPost kO e w' ∧ Below W.heap.size W w' := by
  obtain ⟨a, A, hT⟩ := kt0
  exact odd_ok pv [2, 3, 5] 5 kO W hS hp hT.pe rfl (by decide) (by decide) (fun lv W h1 h2 h3 => kDiamond1 pv lv W h1 h2 (by rw [kc_odd] at h3; exact h3))
theorem kLesser1 (pv : Value) (B : Option Addr) (c : Nat) (W : World) (hS : Std W) (hp : IsRow W W.heap.size pv [2, 3, 5]) (hl : RowsAt W W.heap.size B kO) :
    Calls Tryz.prog 19 #[pv, .slice B 6 c] W fun e w' => ListPost kL e w' ∧ Below W.heap.size W w' := by
  obtain ⟨a, A, hT⟩ := kt0
  have h := tglesser_ok once_any pv [2, 3, 5] 2 B c kO (rOf [2, 3, 5]) (cOf [2, 3, 5]) W hS hp hl (rdsOk_sm hT kr2) (by decide) kcl
  rw [kc_l] at h
  exact h
theorem kDiamond2 (pv lv : Value) (W : World) (hS : Std W) (hp : IsRow W W.heap.size pv [3, 5, 7]) (hl : IsRow W W.heap.size lv [5, 7]) :
    Calls Tryz.prog 28 #[pv, lv] W fun e w' => ListPost kD e w' ∧ Below W.heap.size W w' := by
  obtain ⟨a, A, hT⟩ := kt5
  have h := diamond_ok pv lv [3, 5, 7] [5, 7] 2 (rOf [3, 5, 7]) (cOf [3, 5, 7]) W hS hp hT.pe hl (by decide) kc_ok3 (by rw [kc_n3]; exact kc_p3) (by rw [kc_n3, kc_m3]; exact rdsOk_sm hT kr3)
  rw [kc_n3, kc_m3, kc_d] at h
  exact h

end Go.Proofs.YtcfkclafpbaagaaGreatDoor

namespace Go.Proofs.YtcfkclafpbaagaaGreatDoor
open Go.RowKit Go.Lib Go.Shelf

theorem own_keptG {A B : World} {row : Option Nat} {base n s : Nat} {e : TypeId} {v : Value} {xs : List Value} (h : A.ownsRow base e s v n xs) (hg : A.grownBy B row) (hr : ∀ j, row = some j → ∃ o, A.heap[j]? = some o ∧ o.isCells = false) : B.ownsRow base e s v n xs := by
  refine World.ownsRow.kept h hg ?_
  by_cases hv : v.ownBlock = Option.none
  · exact .inl hv
  · right
    intro e
    obtain ⟨j, hj⟩ := Option.ne_none_iff_exists'.1 hv
    rw [hj] at e
    obtain ⟨o, ho, hc⟩ := hr j e.symm
    rw [own_cells h j o hj ho] at hc
    cases hc
theorem lrow_keptG {A B : World} {row : Option Nat} {base : Nat} {v : Value} {l : List (List Int)} (h : LRow A base v l) (hg : A.grownBy B row) (hr : ∀ j, row = some j → ∃ o, A.heap[j]? = some o ∧ o.isCells = false) : LRow B base v l := by
  obtain ⟨vs, h1, h2⟩ := h
  exact ⟨vs, own_keptG h1 hg hr, fun j x hj => by obtain ⟨u, h3, h4⟩ := h2 j x hj; exact ⟨u, h3, own_keptG h4 hg hr⟩⟩
theorem lrow_set {w : World} {base g k : Nat} {v u : Value} {l : List (List Int)} {e : TypeId} {ys : List Value} (h : LRow w base v l) (hg : g < base) (hc : Cells w g e ys) (hne : 3 ≠ e) : LRow (w.setCell ⟨g, k, Option.none⟩ u) base v l := by
  obtain ⟨vs, h1, h2⟩ := h
  exact ⟨vs, ownsRow_setCell_below h1 hg u, fun j x hj => by obtain ⟨z, h3, h4⟩ := h2 j x hj; exact ⟨z, h3, h4.set hc hne u⟩⟩
/-- What the loop keeps. -/
def InI (p : List Int) (b : Nat) (pv : Value) (W0 : World) (pre : List Smt) (W : World) : Prop :=
  ((∃ v, Cells W (b + 1) 27 [v] ∧ LRow W (b + 1 + 1 + 1 + 1) v (rowsT p pre)) ∧ Cells W b 25 [pv]) ∧ Below b W0 W

attribute [local go_sem] Oper.semAt_some

set_option maxRecDepth 100000 in
set_option maxHeartbeats 4000000 in
theorem integer_ok (pv : Value) (p : List Int) (m : Nat) (R : List (List Int)) (w : World) (hS : Std w) (hp : IsRow w w.heap.size pv p) (hpe : primeErr p = 0) (hm1 : 1 ≤ m) (hm : m ≤ 99)
    (hON : OnceC) (hPR : PrsOk p (rowsM p m)) (f : List Int → Bool) (hf : ∀ x ∈ onceL p (prsR (rowsM p m)), chkAll p [x] = 0 ∧ f x = decide (0 < cmpN (num p x) (den p x))) (hRR : R = (onceL p (prsR (rowsM p m))).filter f) :
    Calls Tryz.prog 23 #[pv, .int .i64 m] w fun e w' => ListPost R e w' ∧ Below w.heap.size w w' := by
  obtain ⟨i0, hi, hz0, hz1, hz2⟩ := info_parts Tryz.info_row
  have hba : Below w.heap.size w (w.alloc (.cells #[pv] 25)) := (Below.refl _ _).alloc (Nat.le_refl _) _
  have HCL := Lib.hid (checkLimit_ok pv p m _ (hp.lift hba) hpe hm1 hm)
  have hrow := hp
  obtain ⟨AP, cp, rfl⟩ := hp.shape
  refine (callsIn_wide (n := 3)).1 ?_
  refine callsIn_of_wp_marks Tryz.func23 rfl trivial ?_ rfl
  simp only [Tryz.ntmps23, List.size_toArray, List.length_cons, List.length_nil, Nat.reduceAdd, Nat.reduceSub, Array.replicate_succ, Array.replicate_zero, List.push_toArray, List.append_toArray, List.nil_append, List.cons_append]
  gi_wp2_with (first | (refine ⟨trivial, ?_⟩; gi_at_call 50; refine (callsIn_wide.2 HCL.out).mono ?_; rintro e w1 ⟨rfl, rfl⟩) | (refine ⟨trivial, ?_⟩; gi_at_call 51; refine (smooth_in _ _ _ _ _ _).mono ?_; rintro e w' ⟨rfl, rfl⟩))
  have b0 := Cells.new w 25 #[.slice AP p.length cp]
  have b1 := Cells.new (w.alloc (.cells #[.slice AP p.length cp] 25)) 27 #[.slice Option.none 0 0]
  have b2 := Cells.new ((w.alloc (.cells #[.slice AP p.length cp] 25)).alloc (.cells #[.slice Option.none 0 0] 27)) 25 #[.slice AP p.length cp]
  have b3 := Cells.new (((w.alloc (.cells #[.slice AP p.length cp] 25)).alloc (.cells #[.slice Option.none 0 0] 27)).alloc (.cells #[.slice AP p.length cp] 25)) 3 #[.int .i64 (m : Int)]
  rw [World.size_alloc] at b1
  rw [World.size_alloc, World.size_alloc] at b2
  rw [World.size_alloc, World.size_alloc, World.size_alloc] at b3
  obtain ⟨W0, hW0⟩ : ∃ W0, W0 = (((w.alloc (.cells #[.slice AP p.length cp] 25)).alloc (.cells #[.slice Option.none 0 0] 27)).alloc (.cells #[.slice AP p.length cp] 25)).alloc (.cells #[.int .i64 (m : Int)] 3) := ⟨_, rfl⟩
  have hB0 : Below w.heap.size w W0 := by rw [hW0]; exact ((((Below.refl _ w).alloc (Nat.le_refl _) _).alloc (by simp) _).alloc (by simp; omega) _).alloc (by simp; omega) _
  have hs0 : W0.heap.size = w.heap.size + 1 + 1 + 1 + 1 := by rw [hW0]; simp
  have c0 := ((b0.alloc (.cells #[.slice Option.none 0 0] 27)).alloc (.cells #[.slice AP p.length cp] 25)).alloc (.cells #[.int .i64 (m : Int)] 3)
  have c1 := (b1.alloc (.cells #[.slice AP p.length cp] 25)).alloc (.cells #[.int .i64 (m : Int)] 3)
  have c2 := b2.alloc (.cells #[.int .i64 (m : Int)] 3)
  rw [← hW0] at c0 c1 c2 b3 ⊢
  clear b0 b1 b2 hW0
  refine wpIn_rangeX rfl (by omega) (gf := 85) (lb := #[.pointer (some ⟨w.heap.size + 1 + 1 + 1, 0, Option.none⟩), .pointer (some ⟨w.heap.size + 1 + 1, 0, Option.none⟩)]) rfl trivial (enters_of Tryz.func85 (by kernel_rfl) rfl)
    (smooth_X _ (by omega) (w.heap.size + 1 + 1 + 1) (w.heap.size + 1 + 1) _ p m w W0 hm hS hB0 hrow hpe b3 c2) kpB2_t (kpB2_b (by omega) (by omega) (by omega)) (fun x W l o o' hl ho h => orow_put hl ho h) (Below.refl _ _) (fun _ => rfl)
    (InI p w.heap.size (.slice AP p.length cp) W0) ?hI ⟨⟨⟨_, c1, LRow.nil _ _⟩, c0⟩, Below.refl _ _⟩
    (fun x : Smt => { tmps := #[.slice AP p.length cp, .int .i64 (m : Int), .pointer (some ⟨w.heap.size, 0, Option.none⟩), undef, .slice Option.none 0 0, .int .i64 0, .int .i64 0, .pointer (some ⟨w.heap.size + 1, 0, Option.none⟩), undef, x.1.2, undef, undef, .slice AP p.length cp, .int .i64 (m : Int), .int .i64 0, .int .i64 0, .bool false, undef, .slice AP p.length cp, .int .i64 (m : Int), .func (.func 85) #[] #[.pointer (some ⟨w.heap.size + 1 + 1 + 1, 0, Option.none⟩), .pointer (some ⟨w.heap.size + 1 + 1, 0, Option.none⟩)], .int .i64 x.1.1, x.1.2, undef, undef, undef, undef, undef, undef, undef, undef, undef, undef, undef, undef, undef, undef, undef, undef, undef, undef, undef, undef, undef], defers := [] }) ?assign ?body ?done
  case hI =>
    exact OwnFrom.and (Own.from (fun s A B row hs hg hr => by
      obtain ⟨⟨v, k1, k2⟩, k0⟩ := hs
      exact ⟨⟨v, cells_kept k1 hg hr, lrow_keptG k2 hg hr⟩, cells_kept k0 hg hr⟩) _) (ownFrom_below (by omega) (by omega))
  case assign =>
    intro l x W K hK
    dsimp only [smtEnc] at *
    gi_wp2
    exact hK
  case body =>
    rintro l pre x W ⟨⟨⟨v, k1, k2⟩, k0⟩, hB⟩ hX hpl
    have hsz : w.heap.size + 1 + 1 + 1 + 1 ≤ W.heap.size := by have := hB.size; omega
    have hcv := k1.cell 0
    simp at hcv
    obtain ⟨vs, hown, hvs⟩ := k2
    have hln := rowsT_len p pre
    have HN := Lib.hid (rowsT_next p pre x)
    obtain ⟨AX, nX, cX, hx2⟩ := x.2.2
    rw [hx2] at hX ⊢
    have HX := Lib.hid hX
    have HVS := Lib.hid hvs
    clear hX hvs
    have h100 : (rowsT p pre).length ≤ 200 := by omega
    clear hln
    generalize rowsT p pre = R1 at *
    gi_wp2_with (gi_at_builtin; refine wpListIn_append_own _ rfl _ _ _ rfl (w.heap.size + 1 + 1 + 1 + 1) 28 i0 (.slice Option.none 0 0) 1 24 Tryz.underlying27 hi hz0 hz1 hz2 rfl (by decide) _ _ _ rfl (hown.alloc _) ⟨W.heap.size, 0, Option.none⟩ 1 1 [.slice AX nX cX] rfl rfl (cell_one_new _ _ _) (by simp [Value.oneCell']) (by unfold maxLen; omega) (by omega) (by simp; omega) ?_; intro v' w9 hown' hgrow _; obtain ⟨g', cap', rfl⟩ := ownsRow_succ hown'; have hc9 := ((k1.alloc (.cells #[.slice AX nX cX] 28)).grown hgrow (own_ne_cells (hown.alloc _) (k1.alloc (.cells #[.slice AX nX cX] 28)) (by decide))).cell 0; have hf9 := ((k1.alloc (.cells #[.slice AX nX cX] 28)).grown hgrow (own_ne_cells (hown.alloc _) (k1.alloc (.cells #[.slice AX nX cX] 28)) (by decide))).free 0; simp at hc9)
    have hal := hown.alloc (.cells #[.slice AX nX cX] 28)
    have k1a := k1.alloc (.cells #[.slice AX nX cX] 28)
    have hlow : ∀ j, v.ownBlock = some j → w.heap.size + 1 + 1 + 1 + 1 ≤ j := fun j hj => (hal.lt j hj).1
    have hBk : Below w.heap.size W (w9.setCell ⟨w.heap.size + 1, 0, Option.none⟩ (.slice (some ⟨g', 0, Option.none⟩) (R1.length + 1) cap')) := (((Below.refl w.heap.size W).alloc (by omega) (.cells #[.slice AX nX cX] 28)).grown hgrow (by simp; omega) (fun j hj => by have := hlow j hj; omega)).setCell (p := ⟨w.heap.size + 1, 0, Option.none⟩) (by show w.heap.size ≤ w.heap.size + 1; omega) _
    have k1b := k1a.grown hgrow (own_ne_cells hal k1a (by decide))
    refine ⟨?_, ⟨hBk, fun xs hc => ?_, fun xs hc => ?_⟩, ⟨⟨⟨.slice (some ⟨g', 0, Option.none⟩) (R1.length + 1) cap', ?_, ?_⟩, ?_⟩, hB.trans hBk⟩⟩
    · exact (((KeepsOthers.alloc W _).trans (KeepsOthers.of_grownBy hgrow (fun j o hj ho => own_cells hal j o hj ho))).trans (KeepsOthers.setCell _ _ _)).from _
    · exact ((hc.alloc _).grown hgrow (fun e => by have := hlow _ e.symm; omega)).far (by show w.heap.size + 1 + 1 + 1 ≠ w.heap.size + 1; omega) _
    · exact ((hc.alloc _).grown hgrow (fun e => by have := hlow _ e.symm; omega)).far (by show w.heap.size + 1 + 1 ≠ w.heap.size + 1; omega) _
    · exact k1b.set 0 _
    · rw [HN.out]
      exact lrow_set (LRow.snoc hal (fun j z hz => by obtain ⟨u, h5, h6⟩ := HVS.out j z hz; exact ⟨u, h5, h6.alloc _⟩) (HX.out.alloc _) hown' hgrow) (by omega) k1b (by decide)
    · exact ((k0.alloc _).grown hgrow (fun e => by have := hlow _ e.symm; omega)).far (by show w.heap.size ≠ w.heap.size + 1; omega) _
  case done =>
    rintro D ys W hDD hys ⟨⟨⟨v, k1, k2⟩, k0⟩, hB⟩ hKD
    have hcv := k1.cell 0
    have hcp := k0.cell 0
    simp at hcv hcp
    have hBW := hB0.trans hB
    rw [rowsT_eq hys] at k2
    have hlen := hPR.len
    obtain ⟨Av, cv, rfl⟩ := k2.shape
    have hrv := k2.rows.2
    have HBT := Lib.hid (between_any hON _ p Av cv (rowsM p m) W (hS.below hBW (Nat.le_refl _)) (hrow.lift hBW) hpe hrv hPR)
    have d20 : decide ((20 : Int) < ((rowsM p m).length : Int)) = false := by rw [decide_eq_false_iff_not]; omega
    have HF := Lib.hid hf
    clear k2 hrv hf hPR
    have HRR := Lib.hid hRR
    have hll : (onceL p (prsR (rowsM p m))).length ≤ 100000 := by
      have h1 := once_len p (prsR (rowsM p m))
      have h2 := prsTo_len (rowsM p m) (rowsM p m).length 0 (Nat.le_refl _) (Nat.zero_le _)
      rw [prsTo_all] at h2
      have h4 : (rowsM p m).length * (rowsM p m).length ≤ 20 * 20 := Nat.mul_le_mul (by omega) (by omega)
      omega
    have HLL := Lib.hid hll
    have HK0 := Lib.hid k0
    clear hll hlen hRR k0
    gi_wp2
    refine ⟨trivial, ?_⟩
    refine (callsIn_wide.2 HBT.out).mono ?_
    rintro e w4 ⟨⟨A4, c4, rfl, hr4⟩, hb4⟩
    have hbW := hBW.trans (hb4.mono hBW.size)
    have HKE := Lib.hid (keptI_rows w.heap.size _ p A4 c4 (onceL p (prsR (rowsM p m))) f w4 (hS.below hbW (Nat.le_refl _)) (HK0.out.below hb4 HK0.out.lt) (hrow.lift hbW) hr4 HF.out HLL.out)
    rw [← HRR.out] at HKE
    clear HBT HF HLL HRR hr4
    generalize (onceL p (prsR (rowsM p m))).length = n4 at *
    gi_wp2
    refine ⟨trivial, ?_⟩
    refine (callsIn_wide.2 HKE.out).mono ?_
    rintro e w5 ⟨⟨A5, c5, rfl, hr5⟩, hb5⟩
    gi_wp2
    have hb45 := hb4.trans (hb5.mono hb4.size)
    have hK5 : w5.heap[D]? = some (.deferred (some [])) := (hb45.block D (Array.getElem?_eq_some_iff.1 hKD).1).trans hKD
    refine ⟨by simp, .inl ⟨_, _, rfl, run_takeDeferred hK5, ?_⟩⟩
    have hbW5 := hBW.trans (hb45.mono hBW.size)
    have hbp := belowK_b (w := w) (Nat.le_refl _) w5 D (.deferred (some [])) (.deferred Option.none) (by omega) hK5 rfl rfl
    exact ⟨.tuple #[.slice A5 R.length c5, .int .i64 0], by simp [results, Tryz.results23, go_sem], ⟨A5, c5, rfl, rowsAt_put hr5 hK5⟩, hbW5.trans hbp⟩

end Go.Proofs.YtcfkclafpbaagaaGreatDoor

namespace Go.Proofs.YtcfkclafpbaagaaGreatDoor
open Go.RowKit Go.Lib Go.Shelf

theorem rows_plain {w : World} {B : Nat} {A : Option Addr} {l : List (List Int)} {k : Nat} {x : List Int} (h : RowsAt w B A l) (hx : l[k]? = some x) : ∃ b o v, A = some ⟨b, o, Option.none⟩ ∧ b < B ∧ w.cell? ⟨b, o + k, Option.none⟩ = some v ∧ IsRow w B v x := by
  have hk := (List.getElem?_eq_some_iff.1 hx).1
  obtain ⟨ad0, v0, e0, _, h0, _⟩ := h.get 0 l[0] (List.getElem?_eq_getElem (by omega))
  rw [show ad0.add 0 = ad0 by unfold Addr.add; simp] at h0
  obtain ⟨b, o, rfl⟩ := addr_plain h0
  obtain ⟨ad, v, e, h1, h2, h3⟩ := h.get k x hx
  rw [e0] at e
  cases e
  rw [Lib.add_plain] at h2
  exact ⟨b, o, v, e0, h1, h2, h3⟩

theorem kInteger1 (pv : Value) (W : World) (hS : Std W) (hp : IsRow W W.heap.size pv [2, 3, 5]) :
    Calls Tryz.prog 23 #[pv, .int .i64 5] W fun e w' => ListPost kI e w' ∧ Below W.heap.size W w' := by
  obtain ⟨a, A, hT⟩ := kt0
  exact integer_ok pv [2, 3, 5] 5 kI W hS hp hT.pe (by decide) (by decide) once_any (by rw [kc_n2]; exact kc_p2) kF (by rw [kc_n2]; exact fun x hx => ⟨kc_ic x hx, rfl⟩) (by rw [kc_n2]; exact kc_i.symm)

set_option maxRecDepth 100000 in
set_option maxHeartbeats 4000000 in
theorem known_any29 (w : World) (hS : Std w) :
    Calls Tryz.prog 11 #[] w fun e w' => e = .returned (.bool true) ∧ Below w.heap.size w w' := by
  obtain ⟨W0, hW0⟩ : ∃ W0, W0 = w.alloc (.cells #[.int .i64 2, .int .i64 3, .int .i64 5] 3) := ⟨_, rfl⟩
  have hb0 : Below w.heap.size w W0 := by rw [hW0]; exact (Below.refl _ _).alloc (Nat.le_refl _) _
  have hp0 : IsRow W0 W0.heap.size (.slice (some ⟨w.heap.size, 0, Option.none⟩) 3 3) [2, 3, 5] := by
    have := isRow_new w 3 [2, 3, 5] #[.int .i64 2, .int .i64 3, .int .i64 5] rfl (by simp) 3 rfl
    rw [hW0, World.size_alloc]; exact this
  have hs0 := hS.below hb0 (Nat.le_refl _)
  have H1 := Lib.hid (kOdd1 _ W0 hs0 hp0)
  have HP := Lib.hid hp0
  have HS := Lib.hid hs0
  have HB := Lib.hid hb0
  clear hp0 hs0 hS hb0
  go_enter Tryz.func11, Tryz.ntmps11
  go_wp2_with fail
  rw [← hW0]
  clear hW0
  refine H1.out.mono ?_
  rintro e w1 ⟨⟨A1, c1, he, hr1⟩, hb1⟩
  obtain rfl : e = .returned (.tuple #[.slice A1 6 c1, .int .i64 0]) := he
  have HP1 := Lib.hid (HP.out.lift hb1)
  have HS1 := Lib.hid (HS.out.below hb1 (Nat.le_refl _))
  have HB1 := Lib.hid (HB.out.trans (hb1.mono HB.out.size))
  have HR1 := Lib.hid hr1
  have H2 := Lib.hid (kLesser1 _ A1 c1 w1 HS1.out HP1.out hr1)
  clear HP HS HB H1 hb1 hr1
  go_wp2_with fail
  refine H2.out.mono ?_
  rintro e w2 ⟨⟨A2, c2, he, hr2⟩, hb2⟩
  obtain rfl : e = .returned (.tuple #[.slice A2 3 c2, .int .i64 0]) := he
  have HP2 := Lib.hid (HP1.out.lift hb2)
  have HS2 := Lib.hid (HS1.out.below hb2 (Nat.le_refl _))
  have HB2 := Lib.hid (HB1.out.trans (hb2.mono HB1.out.size))
  replace HR1 := Lib.hid (HR1.out.lift hb2)
  have HR2 := Lib.hid hr2
  have H3 := Lib.hid (kInteger1 _ w2 HS2.out HP2.out)
  clear HP1 HS1 HB1 H2 hb2 hr2
  go_wp2_with fail
  refine H3.out.mono ?_
  rintro e w3 ⟨⟨A3, c3, he, hr3⟩, hb3⟩
  obtain rfl : e = .returned (.tuple #[.slice A3 9 c3, .int .i64 0]) := he
  have HS3 := Lib.hid (HS2.out.below hb3 (Nat.le_refl _))
  have HB3 := Lib.hid (HB2.out.trans (hb3.mono HB2.out.size))
  replace HR1 := Lib.hid (HR1.out.lift hb3)
  replace HR2 := Lib.hid (HR2.out.lift hb3)
  have HR3 := Lib.hid hr3
  clear HP2 HS2 HB2 H3 hb3 hr3
  obtain ⟨W4, hW4⟩ : ∃ W4, W4 = (w3.alloc (.cells #[.int .i64 3, .int .i64 5, .int .i64 7] 3)).alloc (.cells #[.int .i64 5, .int .i64 7] 3) := ⟨_, rfl⟩
  have hb4 : Below w3.heap.size w3 W4 := by rw [hW4]; exact ((Below.refl _ _).alloc (Nat.le_refl _) _).alloc (by simp) _
  have hp4 : IsRow W4 W4.heap.size (.slice (some ⟨w3.heap.size, 0, Option.none⟩) 3 3) [3, 5, 7] := by
    have := isRow_new w3 3 [3, 5, 7] #[.int .i64 3, .int .i64 5, .int .i64 7] rfl (by simp) 3 rfl
    rw [hW4, World.size_alloc, World.size_alloc]
    exact (this.alloc (by simp) _).up (by omega)
  have hl4 : IsRow W4 W4.heap.size (.slice (some ⟨w3.heap.size + 1, 0, Option.none⟩) 2 2) [5, 7] := by
    have := isRow_new (w3.alloc (.cells #[.int .i64 3, .int .i64 5, .int .i64 7] 3)) 3 [5, 7] #[.int .i64 5, .int .i64 7] rfl (by simp) 2 rfl
    rw [World.size_alloc] at this
    rw [hW4, World.size_alloc, World.size_alloc]
    exact this
  have HS4 := Lib.hid (HS3.out.below hb4 (Nat.le_refl _))
  have HB4 := Lib.hid (HB3.out.trans (hb4.mono HB3.out.size))
  replace HR1 := Lib.hid (HR1.out.lift hb4)
  replace HR2 := Lib.hid (HR2.out.lift hb4)
  replace HR3 := Lib.hid (HR3.out.lift hb4)
  have H4 := Lib.hid (kDiamond2 _ _ W4 HS4.out hp4 hl4)
  clear HS3 HB3 hb4 hp4 hl4
  go_wp2_with fail
  rw [← hW4]
  clear hW4
  refine H4.out.mono ?_
  rintro e w5 ⟨⟨A5, c5, he, hr5⟩, hb5⟩
  obtain rfl : e = .returned (.tuple #[.slice A5 2 c5, .int .i64 0]) := he
  have HB5 := Lib.hid (HB4.out.trans (hb5.mono HB4.out.size))
  replace HR1 := Lib.hid (HR1.out.lift hb5)
  replace HR2 := Lib.hid (HR2.out.lift hb5)
  replace HR3 := Lib.hid (HR3.out.lift hb5)
  clear HS4 HB4 H4 hb5
  obtain ⟨b1, o1, v1, rfl, l1, q1, r1⟩ := rows_plain HR1.out (k := 0) (x := [1, 1, -1]) rfl
  obtain ⟨b2, o2, v2, rfl, l2, q2, r2⟩ := rows_plain HR2.out (k := 2) (x := [2, -1, 0]) rfl
  obtain ⟨b3, o3, v3, rfl, l3, q3, r3⟩ := rows_plain HR3.out (k := 8) (x := [0, 0, 1]) rfl
  obtain ⟨b5, o5, v5, rfl, l5, q5, r5⟩ := rows_plain hr5 (k := 1) (x := [1, 1, -1]) rfl
  rw [Nat.add_zero] at q1
  have hQ : ∀ (v : Value) (x : List Int) (W : World) (cs : Array Value), IsRow W W.heap.size v x → cs.toList = is x → x.length ≤ 1000 → ∀ n, x.length = n →
      Calls Tryz.prog 38 #[v, .slice (some ⟨W.heap.size, 0, Option.none⟩) n n] (W.alloc (.cells cs 3)) fun e w' => e = .returned (.bool true) ∧ Below W.heap.size W w' := by
    intro v x W cs hv hc hx n hn
    have hb : Below W.heap.size W (W.alloc (.cells cs 3)) := (Below.refl _ _).alloc (Nat.le_refl _) _
    have h1 := isRow_new W 3 x cs hc (by omega) n hn
    have h2 := rowEqual_any v _ x x (W.alloc (.cells cs 3)) (hv.lift hb) (by rw [World.size_alloc]; exact h1)
    rw [show sameB x x = true by unfold sameB; simp] at h2
    exact h2.mono fun e w' ⟨e1, e2⟩ => ⟨e1, hb.trans (e2.mono hb.size)⟩
  have HQ1 := Lib.hid (hQ v1 [1, 1, -1] w5 #[.int .i64 1, .int .i64 1, .int .i64 (-1)] r1 rfl (by decide) 3 rfl)
  have HQ2 := Lib.hid (fun (W : World) (h : Below w5.heap.size w5 W) => hQ v2 [2, -1, 0] W #[.int .i64 2, .int .i64 (-1), .int .i64 0] (r2.lift h) rfl (by decide) 3 rfl)
  have HQ3 := Lib.hid (fun (W : World) (h : Below w5.heap.size w5 W) => hQ v3 [0, 0, 1] W #[.int .i64 0, .int .i64 0, .int .i64 1] (r3.lift h) rfl (by decide) 3 rfl)
  have HQ5 := Lib.hid (fun (W : World) (h : Below w5.heap.size w5 W) => hQ v5 [1, 1, -1] W #[.int .i64 1, .int .i64 1, .int .i64 (-1)] (r5.lift h) rfl (by decide) 3 rfl)
  obtain ⟨B1, d1, rfl⟩ := r1.shape
  obtain ⟨B2, d2, rfl⟩ := r2.shape
  obtain ⟨B3, d3, rfl⟩ := r3.shape
  obtain ⟨B5, d5, rfl⟩ := r5.shape
  clear hQ HR1 HR2 HR3 hr5
  go_wp2_with fail
  refine HQ1.out.mono ?_
  rintro e w6 ⟨rfl, hb6⟩
  have q2' := (hb6.cell (p := ⟨b2, o2 + 2, Option.none⟩) l2).trans q2
  have q3' := (hb6.cell (p := ⟨b3, o3 + 8, Option.none⟩) l3).trans q3
  have q5' := (hb6.cell (p := ⟨b5, o5 + 1, Option.none⟩) l5).trans q5
  go_wp2_with fail
  refine (HQ2.out _ hb6).mono ?_
  rintro e w7 ⟨rfl, hb7⟩
  have hb7' := hb6.trans (hb7.mono hb6.size)
  have q3'' := (hb7'.cell (p := ⟨b3, o3 + 8, Option.none⟩) l3).trans q3
  have q5'' := (hb7'.cell (p := ⟨b5, o5 + 1, Option.none⟩) l5).trans q5
  go_wp2_with fail
  refine (HQ3.out _ hb7').mono ?_
  rintro e w8 ⟨rfl, hb8⟩
  have hb8' := hb7'.trans (hb8.mono hb7'.size)
  have q5''' := (hb8'.cell (p := ⟨b5, o5 + 1, Option.none⟩) l5).trans q5
  go_wp2_with fail
  refine (HQ5.out _ hb8').mono ?_
  rintro e w9 ⟨rfl, hb9⟩
  have hb9' := hb8'.trans (hb9.mono hb8'.size)
  go_wp2_with fail
  go_ret
  exact ⟨rfl, HB5.out.trans (hb9'.mono HB5.out.size)⟩

end Go.Proofs.YtcfkclafpbaagaaGreatDoor
