/- The iterator target.smooth: its numbers. target.checkLimit, target.Odd over right primes. target.checkList, Reduce, Lesser, Closed. -/
import Derived.Test.YtcfkclafpbaagaaGreatDoorGTF
import Derived.Test.YtcfkclafpbaagaaGreatDoorGTC
import Derived.Test.YtcfkclafpbaagaaGreatDoorGTI
import Derived.Maps.AppendAt
import Derived.Test.YtcfkclafpbaagaaGreatDoorGTG
import Derived.Test.YtcfkclafpbaagaaGreatDoorGE
namespace Go.Proofs.YtcfkclafpbaagaaGreatDoor
open Go.RowKit Go.Lib Go.Shelf
attribute [local go_sem] Oper.semAt_some

/-- A number, and the value of its row. -/
abbrev Smt := { t : Int × Value // (0 ≤ t.1 ∧ t.1 ≤ 99) ∧ ∃ A n c, t.2 = .slice A n c }
def smtEnc (t : Smt) : Array Value := #[.int .i64 t.1.1, t.1.2]
/-- The numbers over the list up to k. -/
def smTo (p : List Int) : Nat → List Int
  | 0 => []
  | k + 1 => if smB p (k + 1) 1 = true then smTo p k ++ [((k + 1 : Nat) : Int)] else smTo p k
theorem smTo_len (p : List Int) : ∀ k, (smTo p k).length ≤ k
  | 0 => Nat.le_refl _
  | k + 1 => by
    have := smTo_len p k
    unfold smTo
    split
    · rw [List.length_append]; simp; omega
    · omega

/-- What a round keeps: what lay below n₀, and two blocks. -/
def KpB2 (e1 e2 : TypeId) (n₀ b1 b2 : Nat) (W W' : World) : Prop := Below n₀ W W' ∧ (∀ xs, Cells W b1 e1 xs → Cells W' b1 e1 xs) ∧ ∀ xs, Cells W b2 e2 xs → Cells W' b2 e2 xs
theorem KpB2.refl (e1 e2 : TypeId) (n₀ b1 b2 : Nat) (W : World) : KpB2 e1 e2 n₀ b1 b2 W W := ⟨Below.refl _ _, fun _ h => h, fun _ h => h⟩
theorem kpB2_t {e1 e2 : TypeId} {n₀ b1 b2 : Nat} {A B C : World} (h : KpB2 e1 e2 n₀ b1 b2 A B) (k : KpB2 e1 e2 n₀ b1 b2 B C) : KpB2 e1 e2 n₀ b1 b2 A C := ⟨h.1.trans k.1, fun xs hc => k.2.1 xs (h.2.1 xs hc), fun xs hc => k.2.2 xs (h.2.2 xs hc)⟩
theorem kpB2_b {e1 e2 : TypeId} {n₀ b1 b2 : Nat} {w : World} (hn : n₀ ≤ w.heap.size) (h1 : b1 < w.heap.size) (h2 : b2 < w.heap.size) (W : World) (l : Nat) (o o' : Obj) (hl : w.heap.size ≤ l) (h : W.heap[l]? = some o) (hc : o.isCells = false) (hw : o.isWalk = false) : KpB2 e1 e2 n₀ b1 b2 W (W.putObj l o') :=
  ⟨belowK_b hn W l o o' hl h hc hw, fun _ hx => (World.putObj_heap_other (by omega)).trans hx, fun _ hx => (World.putObj_heap_other (by omega)).trans hx⟩

theorem grown_of_below {W W' : World} (h : Below W.heap.size W W') : W.grownBy W' Option.none := ⟨h.os, h.tape, h.output, h.size, fun k hk _ => h.block k hk⟩

set_option maxRecDepth 100000 in
set_option maxHeartbeats 4000000 in
theorem smooth1_in (n : Nat) (hn : 1 ≤ n) (l B1 B2 n₀ : Nat) (pv : Value) (p : List Int) (m : Nat) (w0 : World) (J Jx : List Smt → World → Prop) (W : World) (hm : m ≤ 99) (hS : Std w0) (hw0 : n₀ = w0.heap.size) (h0W : Below w0.heap.size w0 W)
    (hJ : AbidesFrom W.heap.size J) (hp : IsRow w0 w0.heap.size pv p) (hpe : primeErr p = 0)
    (hY : ∀ pre x W, J pre W → pre.length < m → YieldAt Fence.wide (n - 1) Tryz.prog l (smtEnc x) W fun e W' =>
      (e = .returned (.bool true) ∧ J (pre ++ [x]) W' ∧ KpB2 3 25 n₀ B1 B2 W W') ∨ (e = .returned (.bool false) ∧ Jx (pre ++ [x]) W'))
    (hc1 : Cells W B1 3 [.int .i64 m]) (hc2 : Cells W B2 25 [pv]) (h0 : J [] W) :
    CallsIn Fence.wide n Tryz.prog 85 #[.func (.yield l) #[] #[], .pointer (some ⟨B1, 0, Option.none⟩), .pointer (some ⟨B2, 0, Option.none⟩)] W fun e W' => (∃ v, e = .returned v) ∧
      ((∃ ys, ys.map (fun t => t.1.1) = smTo p m ∧ J ys W') ∨ (∃ pre, pre.length ≤ m ∧ Jx pre W')) := by
  subst hw0
  obtain ⟨AP, cp, rfl⟩ := hp.shape
  refine callsIn_of_wp Tryz.func85 rfl trivial ?_ rfl
  simp only [Tryz.ntmps85, List.size_toArray, List.length_cons, List.length_nil, Nat.reduceAdd, Nat.reduceSub, Array.replicate_succ, Array.replicate_zero, List.push_toArray, List.append_toArray, List.nil_append, List.cons_append]
  gi_wp2
  gi_loopw [4] (fun i wr => ∃ (k : Nat) (ys : List Smt), k ≤ m ∧ i = .int .i64 ((k + 1 : Nat) : Int) ∧ ys.map (fun t => t.1.1) = smTo p k ∧ J ys wr ∧ KpB2 3 25 w0.heap.size B1 B2 W wr ∧ W.heap.size ≤ wr.heap.size) (fun i _ => m + 1 - (intOf i).toNat)
  case atStart => exact ⟨0, [], Nat.zero_le _, by simp, rfl, h0, KpB2.refl _ _ _ _ _ _, Nat.le_refl _⟩
  case round =>
    obtain ⟨k, ys, hk, rfl, hys, hJs, hnx, hsz⟩ := hrel
    have hd1 := hnx.2.1 _ hc1
    have hd2 := hnx.2.2 _ hc2
    have q1 := hd1.cell 0
    have q2 := hd2.cell 0
    simp at q1 q2
    have hyl : ys.length ≤ k := by have := congrArg List.length hys; rw [List.length_map] at this; have := smTo_len p k; omega
    by_cases hlt : k < m
    · have hbw := h0W.trans hnx.1
      have HN := Lib.hid (tnum_any _ p (k + 1) wr (hS.below hbw (Nat.le_refl _)) (hp.lift hbw) hpe (by omega) (by omega))
      have hdc : decide (((k + 1 : Nat) : Int) ≤ (m : Int)) = true := by rw [decide_eq_true_eq]; omega
      have hcast : ((k + 1 : Nat) : Int) = (k : Int) + 1 := by push_cast; rfl
      have hw64 : IntKind.i64.wrap (((k + 1 : Nat) : Int) + 1) = ((k + 1 + 1 : Nat) : Int) := by rw [show ((k + 1 + 1 : Nat) : Int) = ((k + 1 : Nat) : Int) + 1 by push_cast; rfl]; exact IntWalk.i64_in _ (by omega)
      have HSM : Hid (smTo p (k + 1) = if smB p (k + 1) 1 = true then smTo p k ++ [((k + 1 : Nat) : Int)] else smTo p k) := Lib.hid rfl
      have hkz : 0 ≤ ((k + 1 : Nat) : Int) := by omega
      clear hcast
      generalize hK1 : ((k + 1 : Nat) : Int) = z at *
      have HK1 := Lib.hid hK1
      clear hK1
      gi_wp2
      refine ⟨trivial, ?_⟩
      refine (callsIn_wide.2 HN.out).mono ?_
      rintro e w2 ⟨hpost, hb2⟩
      have hnx2 : KpB2 3 25 w0.heap.size B1 B2 W w2 := kpB2_t hnx ⟨hb2.mono (h0W.trans hnx.1).size, fun xs h => h.below hb2 h.lt, fun xs h => h.below hb2 h.lt⟩
      have hJ2 : J ys w2 := hJ ys wr w2 Option.none hJs (grown_of_below hb2) (fun r e => by cases e)
      have hsz2 := hb2.size
      rcases hpost with ⟨hsm, v, rfl, hor⟩ | ⟨hsm, rfl⟩
      · obtain ⟨A, c, rfl⟩ := hor.shape
        have HSE : Hid (smTo p (k + 1) = smTo p k ++ [z]) := Lib.hid (by rw [HSM.out, if_pos hsm])
        clear hsm HSM
        have hylm : ys.length < m := by omega
        have hz99 : 0 ≤ z ∧ z ≤ 99 := by have := HK1.out; omega
        obtain ⟨fn, tmps, assign, body, hy, hR⟩ := hY ys ⟨(z, .slice A (expsTo p (k + 1) 1 p.length).length c), hz99, A, _, c, rfl⟩ w2 hJ2 hylm
        dsimp only [smtEnc] at hy
        gi_wp2
        refine hR.mono ?_
        rintro e W3 (⟨rfl, hJ3, hk3⟩ | ⟨rfl, hJx3⟩)
        · gi_wp2
          go_roundw
          case rel => exact ⟨k + 1, _, by omega, by go_num, by rw [List.map_append, hys, HSE.out]; rfl, hJ3, kpB2_t hnx2 hk3, by have := hk3.1.size; omega⟩
          case measure => rw [← HK1.out]; simp [intOf]; omega
        · gi_wp2
          refine bodyPost_ret (results_none rfl _ _ _) rfl ?_
          exact ⟨⟨_, rfl⟩, .inr ⟨_, by rw [List.length_append]; simp; omega, hJx3⟩⟩
      · have HSE : Hid (smTo p (k + 1) = smTo p k) := Lib.hid (by rw [HSM.out, if_neg (by rw [hsm]; simp)])
        clear hsm HSM
        gi_wp2
        refine ⟨fun _ h => (by cases h), ?_⟩
        gi_wp2
        go_roundw
        case rel => exact ⟨k + 1, ys, by omega, by go_num, by rw [hys, HSE.out], hJ2, hnx2, by omega⟩
        case measure => rw [← HK1.out]; simp [intOf]; omega
    · obtain rfl : k = m := by omega
      have hdc : decide (((k + 1 : Nat) : Int) ≤ (k : Int)) = false := by rw [decide_eq_false_iff_not]; omega
      gi_wp2
      go_end0
      exact ⟨⟨_, rfl⟩, .inl ⟨ys, hys, hJs⟩⟩

theorem smooth_stops (n : Nat) (hn : 1 ≤ n) (B1 B2 : Nat) (pv : Value) (p : List Int) (m : Nat) (w0 w : World) (hm : m ≤ 99) (hS : Std w0) (h0 : Below w0.heap.size w0 w) (hp : IsRow w0 w0.heap.size pv p) (hpe : primeErr p = 0)
    (hc1 : Cells w B1 3 [.int .i64 m]) (hc2 : Cells w B2 25 [pv]) :
    SeqStopsK Fence.wide n Tryz.prog 85 #[.pointer (some ⟨B1, 0, Option.none⟩), .pointer (some ⟨B2, 0, Option.none⟩)] smtEnc (KpB2 3 25 w0.heap.size B1 B2) (fun ys => ys.map (fun t => t.1.1) = smTo p m) (fun pre => pre.length ≤ m) m w := fun l J Jx W hW hJ _ hY hJ0 =>
  smooth1_in n hn l B1 B2 w0.heap.size pv p m w0 J Jx W hm hS rfl (h0.trans (hW.mono h0.size)) hJ hp hpe hY (hc1.below hW hc1.lt) (hc2.below hW hc2.lt) hJ0

set_option maxHeartbeats 1000000 in
theorem smooth_in (n : Nat) (A : Option Addr) (np c : Nat) (m : Int) (w : World) :
    CallsIn Fence.wide n Tryz.prog 51 #[.slice A np c, .int .i64 m] w fun e w' => e = .returned (.func (.func 85) #[] #[.pointer (some ⟨w.heap.size + 1, 0, Option.none⟩), .pointer (some ⟨w.heap.size, 0, Option.none⟩)]) ∧ w' = (w.alloc (.cells #[.slice A np c] 25)).alloc (.cells #[.int .i64 m] 3) := by
  refine callsIn_of_wp Tryz.func51 rfl trivial ?_ rfl
  simp only [Tryz.ntmps51, List.size_toArray, List.length_cons, List.length_nil, Nat.reduceAdd, Nat.reduceSub, Array.replicate_succ, Array.replicate_zero, List.push_toArray, List.append_toArray, List.nil_append, List.cons_append]
  gi_wp2
  go_ret
  exact ⟨rfl, rfl⟩

end Go.Proofs.YtcfkclafpbaagaaGreatDoor

namespace Go.Proofs.YtcfkclafpbaagaaGreatDoor
open Go.RowKit Go.Lib Go.Shelf

set_option maxHeartbeats 1000000 in
theorem checkLimit_ok (pv : Value) (p : List Int) (m : Nat) (w : World) (hp : IsRow w w.heap.size pv p) (hpe : primeErr p = 0) (h1 : 1 ≤ m) (h2 : m ≤ 99) :
    Calls Tryz.prog 50 #[pv, .int .i64 m] w fun e w' => e = .returned (.int .i64 0) ∧ w = w' := by
  have HPC := Lib.hid (primeCheck_any pv p w.heap.size w hp)
  rw [hpe] at HPC
  have d1 : decide ((m : Int) < 1) = false := by rw [decide_eq_false_iff_not]; omega
  have d2 : decide (99 < (m : Int)) = false := by rw [decide_eq_false_iff_not]; omega
  obtain ⟨AP, cp, rfl⟩ := hp.shape
  clear hp hpe
  go_enter Tryz.func50, Tryz.ntmps50
  go_wp2_with fail
  refine HPC.out.mono ?_
  rintro e w1 ⟨rfl, rfl⟩
  go_wp2_with fail
  go_ret
  exact ⟨rfl, rfl⟩

/-- The odd ones. -/
def oddZ (l : List Int) : List Int := l.filter fun z => decide (z % 2 = 1)
def oddT (l : List Smt) : List Int := oddZ (l.map fun t => t.1.1)
theorem oddT_yes (l : List Smt) (x : Smt) (h : x.1.1 % 2 = 1) : oddT (l ++ [x]) = oddT l ++ [x.1.1] := by
  unfold oddT oddZ
  rw [List.map_append, List.filter_append]
  simp [h]
theorem oddT_no (l : List Smt) (x : Smt) (h : ¬ x.1.1 % 2 = 1) : oddT (l ++ [x]) = oddT l := by
  unfold oddT oddZ
  rw [List.map_append, List.filter_append]
  simp [h]
theorem oddT_len (l : List Smt) : (oddT l).length ≤ l.length := by
  unfold oddT oddZ
  have := List.length_filter_le (fun z => decide (z % 2 = 1)) (l.map fun t => t.1.1)
  rw [List.length_map] at this
  exact this

theorem own_cells {w : World} {base n s : Nat} {e : TypeId} {v : Value} {xs : List Value} (h : w.ownsRow base e s v n xs) (j : Nat) (o : Obj) (hj : v.ownBlock = some j) (ho : w.heap[j]? = some o) : o.isCells = true := by
  rcases h.2 with ⟨rfl, _⟩ | ⟨g, cap, cur, rfl, _, hg, _⟩
  · simp [Value.ownBlock] at hj
  · have : g = j := by simpa [Value.ownBlock] using hj
    subst this
    rw [hg] at ho
    cases ho
    rfl

theorem isRow_put {w : World} {v : Value} {x : List Int} {D : Nat} (h : IsRow w w.heap.size v x) (hD : w.heap[D]? = some (.deferred (some []))) : IsRow (w.putObj D (.deferred Option.none)) (w.putObj D (.deferred Option.none)).heap.size v x := by
  obtain ⟨A, c, e, h1, h2, hr⟩ := h
  refine ⟨A, c, e, h1, h2, hr.len, fun k u hu => ?_⟩
  obtain ⟨ad, e1, hb, hc⟩ := hr.get k u hu
  exact ⟨ad, e1, by simpa using hb, cell_kept hc (grownBy_putObj' _ D (.deferred Option.none)) (fun r e => by cases e; exact ⟨_, hD, rfl⟩)⟩
theorem rowsAt_put {w : World} {A : Option Addr} {l : List (List Int)} {D : Nat} (h : RowsAt w w.heap.size A l) (hD : w.heap[D]? = some (.deferred (some []))) : RowsAt (w.putObj D (.deferred Option.none)) (w.putObj D (.deferred Option.none)).heap.size A l :=
  ⟨fun k x hx => by
    obtain ⟨ad, v, e, h1, h2, h3⟩ := h.get k x hx
    exact ⟨ad, v, e, by simpa using h1, cell_kept h2 (grownBy_putObj' _ D (.deferred Option.none)) (fun r e => by cases e; exact ⟨_, hD, rfl⟩), isRow_put h3 hD⟩⟩

attribute [local go_sem] Oper.semAt_some

set_option maxRecDepth 100000 in
set_option maxHeartbeats 4000000 in
theorem odd_ok (pv : Value) (p : List Int) (m : Nat) (R : List (List Int)) (w : World) (hS : Std w) (hp : IsRow w w.heap.size pv p) (hpe : primeErr p = 0) (h2 : p[0]?.getD 0 = 2) (hm1 : 1 ≤ m) (hm : m ≤ 99)
    (hD : ∀ (lv : Value) (W : World), Std W → IsRow W W.heap.size pv p → IsRow W W.heap.size lv (oddZ (smTo p m)) → Calls Tryz.prog 28 #[pv, lv] W fun e w' => ListPost R e w' ∧ Below W.heap.size W w') :
    Calls Tryz.prog 22 #[pv, .int .i64 m] w fun e w' => ListPost R e w' ∧ Below w.heap.size w w' := by
  obtain ⟨i0, hi, hz0, hz1, hz2⟩ := info_parts Tryz.info_int
  have HCL := Lib.hid (checkLimit_ok pv p m w hp hpe hm1 hm)
  have HPL : Box (0 < p.length) := ⟨by
    rcases Nat.eq_zero_or_pos p.length with h | h
    · unfold primeErr at hpe
      rw [if_pos h] at hpe
      cases hpe
    · exact h⟩
  have hrow := hp
  obtain ⟨AP, cp, rfl, _, _, hpr⟩ := hp
  obtain ⟨ad, rfl, hadb, hc0⟩ := hpr.i_at (k := 0) HPL.out
  rw [h2, show ad.add 0 = ad by unfold Addr.add; simp] at hc0
  have hl0 : (0 : Int) < (p.length : Int) := by have := HPL.out; omega
  refine (callsIn_wide (n := 3)).1 ?_
  refine callsIn_of_wp_marks Tryz.func22 rfl trivial ?_ rfl
  simp only [Tryz.ntmps22, List.size_toArray, List.length_cons, List.length_nil, Nat.reduceAdd, Nat.reduceSub, Array.replicate_succ, Array.replicate_zero, List.push_toArray, List.append_toArray, List.nil_append, List.cons_append]
  gi_wp2_with (first | (refine ⟨trivial, ?_⟩; gi_at_call 50; refine (callsIn_wide.2 HCL.out).mono ?_; rintro e w1 ⟨rfl, rfl⟩) | (refine ⟨trivial, ?_⟩; gi_at_call 51; refine (smooth_in _ _ _ _ _ _).mono ?_; rintro e w' ⟨rfl, rfl⟩))
  have b0 := Cells.new w 24 #[.slice Option.none 0 0]
  have b1 := Cells.new (w.alloc (.cells #[.slice Option.none 0 0] 24)) 25 #[.slice (some ad) p.length cp]
  have b2 := Cells.new ((w.alloc (.cells #[.slice Option.none 0 0] 24)).alloc (.cells #[.slice (some ad) p.length cp] 25)) 3 #[.int .i64 (m : Int)]
  rw [World.size_alloc] at b1
  rw [World.size_alloc, World.size_alloc] at b2
  obtain ⟨W0, hW0⟩ : ∃ W0, W0 = ((w.alloc (.cells #[.slice Option.none 0 0] 24)).alloc (.cells #[.slice (some ad) p.length cp] 25)).alloc (.cells #[.int .i64 (m : Int)] 3) := ⟨_, rfl⟩
  have hB0 : Below w.heap.size w W0 := by rw [hW0]; exact (((Below.refl _ w).alloc (Nat.le_refl _) _).alloc (by simp) _).alloc (by simp; omega) _
  have hs0 : W0.heap.size = w.heap.size + 1 + 1 + 1 := by rw [hW0]; simp
  have c0 := (b0.alloc (.cells #[.slice (some ad) p.length cp] 25)).alloc (.cells #[.int .i64 (m : Int)] 3)
  have c1 := b1.alloc (.cells #[.int .i64 (m : Int)] 3)
  rw [← hW0] at c0 c1 b2 ⊢
  clear b0 b1 hW0
  refine wpIn_rangeFunc_ownG rfl (by omega) (gf := 85) (lb := #[.pointer (some ⟨w.heap.size + 1 + 1, 0, Option.none⟩), .pointer (some ⟨w.heap.size + 1, 0, Option.none⟩)]) rfl trivial (enters_of Tryz.func85 (by kernel_rfl) rfl)
    (smooth_stops _ (by omega) (w.heap.size + 1 + 1) (w.heap.size + 1) _ p m w W0 hm hS hB0 hrow hpe b2 c1) kpB2_t (kpB2_b (by omega) (by omega) (by omega)) (Below.refl _ _) (fun _ => rfl)
    (fun pre W => (∃ v, Cells W w.heap.size 24 [v] ∧ W.ownsRow (w.heap.size + 1 + 1 + 1) 3 1 v (oddT pre).length (is (oddT pre))) ∧ Below w.heap.size W0 W)
    (fun _ _ _ => False)
    (OwnFrom.and (Own.from (fun s A B row hs hg hr => by
      obtain ⟨v, k1, k2⟩ := hs
      refine ⟨v, cells_kept k1 hg hr, k2.kept hg ?_⟩
      by_cases hv : v.ownBlock = Option.none
      · exact .inl hv
      · right
        intro e
        obtain ⟨j, hj⟩ := Option.ne_none_iff_exists'.1 hv
        rw [hj] at e
        obtain ⟨o, ho, hc⟩ := hr j e.symm
        rw [own_cells k2 j o hj ho] at hc
        cases hc) _) (ownFrom_below (by omega) (by omega)))
    (fun _ _ _ _ _ hs _ _ => hs)
    ⟨⟨_, c0, World.ownsRow_nil _ _ _ _⟩, Below.refl _ _⟩
    (fun x : Smt => { tmps := #[Value.slice (some ad) p.length cp, Value.int .i64 (m : Int), undef, undef, Value.slice Option.none 0 0, Value.int .i64 0, Value.int .i64 0, Value.pointer (some { block := w.heap.size, off := 0 }), .int .i64 x.1.1, Value.slice (some ad) p.length cp, Value.int .i64 (m : Int), Value.int .i64 0, Value.int .i64 0, Value.bool false, undef, Value.slice (some ad) p.length cp, Value.pointer (some ad), Value.int .i64 2, Value.bool false, Value.slice (some ad) p.length cp, Value.int .i64 (m : Int), Value.func (Fn.func 85) #[] #[Value.pointer (some { block := w.heap.size + 1 + 1, off := 0 }), Value.pointer (some { block := w.heap.size + 1, off := 0 })], .int .i64 x.1.1, x.1.2, undef, undef, undef, undef, undef, undef, undef, undef, undef, undef, undef, undef], defers := [] }) ?assign ?body ?done ?stop
  case assign =>
    intro l x W K hK
    dsimp only [smtEnc] at *
    gi_wp2
    exact hK
  case body =>
    rintro l pre x W ⟨⟨v, k1, k2⟩, hB⟩ hpl
    have hsz : w.heap.size + 1 + 1 + 1 ≤ W.heap.size := by have := hB.size; omega
    have hcv := k1.cell 0
    simp at hcv
    have hol := oddT_len pre
    obtain ⟨hx0, hx9⟩ := x.2.1
    by_cases hodd : x.1.1 % 2 = 1
    · have HY := Lib.hid (oddT_yes pre x hodd)
      generalize hze : x.1.1 = z at *
      have HZE := Lib.hid hze
      have htm : z.tmod 2 = 1 := by rw [Int.tmod_eq_emod_of_nonneg hx0]; exact hodd
      clear hodd hze
      gi_wp2_with (gi_at_builtin; refine wpListIn_append_own _ rfl _ _ _ rfl (w.heap.size + 1 + 1 + 1) 3 i0 (.int .i64 0) 1 8 Tryz.underlying24 hi hz0 hz1 hz2 rfl (by decide) _ _ _ rfl (k2.alloc _) ⟨W.heap.size, 0, Option.none⟩ 1 1 [.int .i64 z] rfl rfl (cell_one_new _ _ _) (by simp [Value.oneCell']) (by unfold maxLen; omega) (by omega) (by simp; omega) ?_; intro v' w9 hown' hgrow _; obtain ⟨g', cap', rfl⟩ := ownsRow_succ hown'; have hc9 := ((k1.alloc (.cells #[.int .i64 z] 3)).grown hgrow (own_ne_cells (k2.alloc _) (k1.alloc (.cells #[.int .i64 z] 3)) (by decide))).cell 0; have hf9 := ((k1.alloc (.cells #[.int .i64 z] 3)).grown hgrow (own_ne_cells (k2.alloc _) (k1.alloc (.cells #[.int .i64 z] 3)) (by decide))).free 0; simp at hc9)
      have hal := k2.alloc (.cells #[.int .i64 z] 3)
      have k1a := k1.alloc (.cells #[.int .i64 z] 3)
      have hlow : ∀ j, v.ownBlock = some j → w.heap.size + 1 + 1 + 1 ≤ j := fun j hj => (hal.lt j hj).1
      have hBk : Below w.heap.size W (w9.setCell ⟨w.heap.size, 0, Option.none⟩ (.slice (some ⟨g', 0, Option.none⟩) ((oddT pre).length + 1) cap')) := (((Below.refl w.heap.size W).alloc (by omega) (.cells #[.int .i64 z] 3)).grown hgrow (by simp; omega) (fun j hj => by have := hlow j hj; omega)).setCell (p := ⟨w.heap.size, 0, Option.none⟩) (Nat.le_refl _) _
      refine ⟨?_, ⟨hBk, fun xs hc => ?_, fun xs hc => ?_⟩, ⟨.slice (some ⟨g', 0, Option.none⟩) ((oddT pre).length + 1) cap', ?_, ?_⟩, hB.trans hBk⟩
      · exact (((KeepsOthers.alloc W _).trans (KeepsOthers.of_grownBy hgrow (fun j o hj ho => own_cells hal j o hj ho))).trans (KeepsOthers.setCell _ _ _)).from _
      · exact ((hc.alloc _).grown hgrow (fun e => by have := hlow _ e.symm; omega)).far (by show w.heap.size + 1 + 1 ≠ w.heap.size; omega) _
      · exact ((hc.alloc _).grown hgrow (fun e => by have := hlow _ e.symm; omega)).far (by show w.heap.size + 1 ≠ w.heap.size; omega) _
      · exact (k1a.grown hgrow (own_ne_cells hal k1a (by decide))).set 0 _
      · rw [HY.out, List.length_append, is_append]
        exact ownsRow_setCell_below hown' (by show w.heap.size < w.heap.size + 1 + 1 + 1; omega) _
    · have HY := Lib.hid (oddT_no pre x hodd)
      have hr : x.1.1 % 2 = 0 := by omega
      generalize hze : x.1.1 = z at *
      have htm : z.tmod 2 = 0 := by rw [Int.tmod_eq_emod_of_nonneg hx0]; exact hr
      clear hodd hze
      gi_wp2
      exact ⟨KeepsFrom.refl _ _, KpB2.refl _ _ _ _ _ _, ⟨v, k1, by rw [HY.out]; exact k2⟩, hB⟩
  case done =>
    rintro D ys W hDD hys ⟨⟨v, k1, k2⟩, hB⟩ hKD
    have hcv := k1.cell 0
    simp at hcv
    have hBW := hB0.trans hB
    have hoz : oddT ys = oddZ (smTo p m) := by unfold oddT; rw [hys]
    rw [hoz] at k2
    have hlv : IsRow W W.heap.size v (oddZ (smTo p m)) := IsRow.of_own k2
    have HD := Lib.hid (hD v W (hS.below hBW (Nat.le_refl _)) (hrow.lift hBW) hlv)
    obtain ⟨Av, cv, rfl⟩ := hlv.shape
    clear k2 hlv
    gi_wp2
    refine ⟨trivial, ?_⟩
    refine (callsIn_wide.2 HD.out).mono ?_
    rintro e w4 ⟨⟨A4, c4, rfl, hr4⟩, hb4⟩
    gi_wp2
    have hK4 : w4.heap[D]? = some (.deferred (some [])) := (hb4.block D (Array.getElem?_eq_some_iff.1 hKD).1).trans hKD
    refine ⟨by simp, .inl ⟨_, _, rfl, run_takeDeferred hK4, ?_⟩⟩
    have hbW := hBW.trans (hb4.mono hBW.size)
    have hbp := belowK_b (w := w) (Nat.le_refl _) w4 D (.deferred (some [])) (.deferred Option.none) (by omega) hK4 rfl rfl
    exact ⟨.tuple #[.slice A4 R.length c4, .int .i64 0], by simp [results, Tryz.results22, go_sem], ⟨A4, c4, rfl, rowsAt_put hr4 hK4⟩, hbW.trans hbp⟩
  case stop =>
    rintro D c pre W _ _ h _
    exact h.elim

end Go.Proofs.YtcfkclafpbaagaaGreatDoor

namespace Go.Proofs.YtcfkclafpbaagaaGreatDoor
open Go.RowKit Go.Lib Go.Shelf

/-- The error of a list of rows. -/
def lstErr (p : List Int) (l : List (List Int)) : Int := if primeErr p ≠ 0 then primeErr p else if 600 < l.length then 4 else chkAll p l

set_option maxHeartbeats 1000000 in
theorem checkList_any (pv : Value) (p : List Int) (A : Option Addr) (c : Nat) (l : List (List Int)) (w : World) (hp : IsRow w w.heap.size pv p) (hl : RowsAt w w.heap.size A l) (hlm : l.length ≤ 1000000) :
    Calls Tryz.prog 45 #[pv, .slice A l.length c] w fun e w' => e = .returned (.int .i64 (lstErr p l)) ∧ w = w' := by
  have HPC := Lib.hid (primeCheck_any pv p w.heap.size w hp)
  have HCA := Lib.hid (checkAll_any pv p A c w.heap.size l w hp hl hlm)
  obtain ⟨AP, cp, rfl⟩ := hp.shape
  have hlen : l.length ≤ 9223372036854775807 := by omega
  by_cases hpe : primeErr p = 0
  · rw [hpe] at HPC
    by_cases h6 : 600 < l.length
    · have hv : lstErr p l = 4 := by unfold lstErr; rw [if_neg (by simp [hpe]), if_pos h6]
      rw [hv]
      have d1 : decide ((600 : Int) < (l.length : Int)) = true := by rw [decide_eq_true_iff]; omega
      clear hv hpe hp hl hlm
      go_enter Tryz.func45, Tryz.ntmps45
      go_wp2_with (go_at_call 25; refine HPC.out.mono ?_; rintro e w1 ⟨rfl, rfl⟩)
      go_ret
      exact ⟨rfl, rfl⟩
    · have hv : lstErr p l = chkAll p l := by unfold lstErr; rw [if_neg (by simp [hpe]), if_neg h6]
      rw [hv]
      have d1 : decide ((600 : Int) < (l.length : Int)) = false := by rw [decide_eq_false_iff_not]; omega
      clear hv hpe hp hl hlm
      go_enter Tryz.func45, Tryz.ntmps45
      go_wp2_with (first | (go_at_call 25; refine HPC.out.mono ?_; rintro e w1 ⟨rfl, rfl⟩) | (go_at_call 32; refine HCA.out.mono ?_; rintro e w1 ⟨rfl, rfl⟩))
      go_ret
      exact ⟨rfl, rfl⟩
  · have hv : lstErr p l = primeErr p := by unfold lstErr; rw [if_pos hpe]
    rw [hv]
    have hne : (primeErr p != 0) = true := by simp [hpe]
    clear hv hpe hp hl hlm
    go_enter Tryz.func45, Tryz.ntmps45
    go_wp2_with (go_at_call 25; refine HPC.out.mono ?_; rintro e w1 ⟨rfl, rfl⟩)
    go_ret
    exact ⟨rfl, rfl⟩

set_option maxHeartbeats 1000000 in
/-- target.Lesser. -/
theorem tglesser_ok (hON : OnceC) (pv : Value) (p : List Int) (n : Nat) (A : Option Addr) (c : Nat) (l : List (List Int)) (r cc : List Int → List Int) (w : World) (hS : Std w) (hp : IsRow w w.heap.size pv p) (hl : RowsAt w w.heap.size A l) (h : RdsOk p n l r cc) (hn : 1 * l.length ≤ 400) (hz : chkAll p l = 0) :
    Calls Tryz.prog 19 #[pv, .slice A l.length c] w fun e w' => ListPost (onceL p (selsL p r cc l l.length)) e w' ∧ Below w.heap.size w w' := by
  have HCL := Lib.hid (checkList_any pv p A c l w hp hl (by omega))
  have hv : lstErr p l = 0 := by unfold lstErr; rw [if_neg (by simp [h.pe]), if_neg (by omega)]; exact hz
  rw [hv] at HCL
  have HRE := Lib.hid (reducedL hON pv p n A c l r cc w hS hp hl h hn)
  obtain ⟨AP, cp, rfl⟩ := hp.shape
  clear hON hS hp hl h hn hz hv
  go_enter Tryz.func19, Tryz.ntmps19
  go_wp2_with (first | (go_at_call 45; refine HCL.out.mono ?_; rintro e w1 ⟨rfl, rfl⟩) | (go_at_call 46; refine HRE.out.mono ?_; rintro e w1 ⟨⟨A1, c1, rfl, hr1⟩, hb1⟩))
  go_ret2
  exact ⟨⟨A1, c1, rfl, hr1⟩, hb1⟩

set_option maxHeartbeats 1000000 in
/-- target.Reduce. -/
theorem tgreduce_ok (hON : OnceC) (pv : Value) (p : List Int) (n : Nat) (A : Option Addr) (c : Nat) (l : List (List Int)) (r cc : List Int → List Int) (w : World) (hS : Std w) (hp : IsRow w w.heap.size pv p) (hl : RowsAt w w.heap.size A l) (h : RdsOk p n l r cc) (hn : 1 * l.length ≤ 400) (hz : chkAll p l = 0) :
    Calls Tryz.prog 18 #[pv, .slice A l.length c] w fun e w' => ListPost (onceL p (selsW p r cc l l.length)) e w' ∧ Below w.heap.size w w' := by
  have HCL := Lib.hid (checkList_any pv p A c l w hp hl (by omega))
  have hv : lstErr p l = 0 := by unfold lstErr; rw [if_neg (by simp [h.pe]), if_neg (by omega)]; exact hz
  rw [hv] at HCL
  have HRE := Lib.hid (reducedW hON pv p n A c l r cc w hS hp hl h hn)
  obtain ⟨AP, cp, rfl⟩ := hp.shape
  clear hON hS hp hl h hn hz hv
  go_enter Tryz.func18, Tryz.ntmps18
  go_wp2_with (first | (go_at_call 45; refine HCL.out.mono ?_; rintro e w1 ⟨rfl, rfl⟩) | (go_at_call 46; refine HRE.out.mono ?_; rintro e w1 ⟨⟨A1, c1, rfl, hr1⟩, hb1⟩))
  go_ret2
  exact ⟨⟨A1, c1, rfl, hr1⟩, hb1⟩

set_option maxHeartbeats 1000000 in
/-- target.Closed. -/
theorem tgclosed_ok (hON : OnceC) (pv : Value) (p : List Int) (n : Nat) (A : Option Addr) (c : Nat) (l : List (List Int)) (r cc : List Int → List Int) (w : World) (hS : Std w) (hp : IsRow w w.heap.size pv p) (hl : RowsAt w w.heap.size A l) (h : RdsOk p n l r cc) (hn : 2 * l.length ≤ 400) (hz : chkAll p l = 0) :
    Calls Tryz.prog 20 #[pv, .slice A l.length c] w fun e w' => ListPost (onceL p (selsP p r cc l l.length)) e w' ∧ Below w.heap.size w w' := by
  have HCL := Lib.hid (checkList_any pv p A c l w hp hl (by omega))
  have hv : lstErr p l = 0 := by unfold lstErr; rw [if_neg (by simp [h.pe]), if_neg (by omega)]; exact hz
  rw [hv] at HCL
  have HRE := Lib.hid (reducedP hON pv p n A c l r cc w hS hp hl h hn)
  obtain ⟨AP, cp, rfl⟩ := hp.shape
  clear hON hS hp hl h hn hz hv
  go_enter Tryz.func20, Tryz.ntmps20
  go_wp2_with (first | (go_at_call 45; refine HCL.out.mono ?_; rintro e w1 ⟨rfl, rfl⟩) | (go_at_call 46; refine HRE.out.mono ?_; rintro e w1 ⟨⟨A1, c1, rfl, hr1⟩, hb1⟩))
  go_ret2
  exact ⟨⟨A1, c1, rfl, hr1⟩, hb1⟩

end Go.Proofs.YtcfkclafpbaagaaGreatDoor
