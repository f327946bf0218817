/- target.smooth's iterator, the row that it yields told to the caller. A range over a function whose iterator tells of each value what lies about it (X). The body only goes on. The law of a range over a function in the manner of SeqX: the body only goes on. target.Integer over right primes. -/
import Derived.Test.YtcfkclafpbaagaaGreatDoorGTJ
import Derived.Test.YtcfkclafpbaagaaGreatDoorGTK
import Derived.Test.YtcfkclafpbaagaaGreatDoorGTG
import Derived.Maps.AppendAt
namespace Go.Proofs.YtcfkclafpbaagaaGreatDoor
open Go.RowKit Go.Lib Go.Shelf

set_option maxRecDepth 100000 in
set_option maxHeartbeats 4000000 in
theorem smooth1_rows (n : Nat) (hn : 1 ≤ n) (l B1 B2 n₀ : Nat) (pv : Value) (p : List Int) (m : Nat) (w0 : World) (J Jx : List Smt → World → Prop) (W : World) (hm : m ≤ 99) (hS : Std w0) (hw0 : n₀ = w0.heap.size) (h0W : Below w0.heap.size w0 W)
    (hJ : AbidesFrom W.heap.size J) (hp : IsRow w0 w0.heap.size pv p) (hpe : primeErr p = 0)
    (hY : ∀ pre x W, J pre W → ORow W x.1.2 (expsTo p x.1.1.toNat 1 p.length) → pre.length < m → YieldAt Fence.wide (n - 1) Tryz.prog l (smtEnc x) W fun e W' =>
      (e = .returned (.bool true) ∧ J (pre ++ [x]) W' ∧ KpB2 3 25 n₀ B1 B2 W W') ∨ (e = .returned (.bool false) ∧ Jx (pre ++ [x]) W'))
    (hc1 : Cells W B1 3 [.int .i64 m]) (hc2 : Cells W B2 25 [pv]) (h0 : J [] W) :
    CallsIn Fence.wide n Tryz.prog 85 #[.func (.yield l) #[] #[], .pointer (some ⟨B1, 0, Option.none⟩), .pointer (some ⟨B2, 0, Option.none⟩)] W fun e W' => (∃ v, e = .returned v) ∧
      ((∃ ys, ys.map (fun t => t.1.1) = smTo p m ∧ J ys W') ∨ (∃ pre, pre.length ≤ m ∧ Jx pre W')) := by
  subst hw0
  obtain ⟨AP, cp, rfl⟩ := hp.shape
  refine callsIn_of_wp Tryz.func85 rfl trivial ?_ rfl
  simp only [Tryz.ntmps85, List.size_toArray, List.length_cons, List.length_nil, Nat.reduceAdd, Nat.reduceSub, Array.replicate_succ, Array.replicate_zero, List.push_toArray, List.append_toArray, List.nil_append, List.cons_append]
  gi_wp2
  gi_loopw [4] (fun i wr => ∃ (k : Nat) (ys : List Smt), k ≤ m ∧ i = .int .i64 ((k + 1 : Nat) : Int) ∧ ys.map (fun t => t.1.1) = smTo p k ∧ J ys wr ∧ KpB2 3 25 w0.heap.size B1 B2 W wr ∧ W.heap.size ≤ wr.heap.size) (fun i _ => m + 1 - (intOf i).toNat)
  case atStart => exact ⟨0, [], Nat.zero_le _, by simp, rfl, h0, KpB2.refl _ _ _ _ _ _, Nat.le_refl _⟩
  case round =>
    obtain ⟨k, ys, hk, rfl, hys, hJs, hnx, hsz⟩ := hrel
    have hd1 := hnx.2.1 _ hc1
    have hd2 := hnx.2.2 _ hc2
    have q1 := hd1.cell 0
    have q2 := hd2.cell 0
    simp at q1 q2
    have hyl : ys.length ≤ k := by have := congrArg List.length hys; rw [List.length_map] at this; have := smTo_len p k; omega
    by_cases hlt : k < m
    · have hbw := h0W.trans hnx.1
      have HN := Lib.hid (tnum_any _ p (k + 1) wr (hS.below hbw (Nat.le_refl _)) (hp.lift hbw) hpe (by omega) (by omega))
      have hdc : decide (((k + 1 : Nat) : Int) ≤ (m : Int)) = true := by rw [decide_eq_true_eq]; omega
      have hcast : ((k + 1 : Nat) : Int) = (k : Int) + 1 := by push_cast; rfl
      have hw64 : IntKind.i64.wrap (((k + 1 : Nat) : Int) + 1) = ((k + 1 + 1 : Nat) : Int) := by rw [show ((k + 1 + 1 : Nat) : Int) = ((k + 1 : Nat) : Int) + 1 by push_cast; rfl]; exact IntWalk.i64_in _ (by omega)
      have HSM : Hid (smTo p (k + 1) = if smB p (k + 1) 1 = true then smTo p k ++ [((k + 1 : Nat) : Int)] else smTo p k) := Lib.hid rfl
      have hkz : 0 ≤ ((k + 1 : Nat) : Int) := by omega
      clear hcast
      generalize hK1 : ((k + 1 : Nat) : Int) = z at *
      have HK1 := Lib.hid hK1
      clear hK1
      gi_wp2
      refine ⟨trivial, ?_⟩
      refine (callsIn_wide.2 HN.out).mono ?_
      rintro e w2 ⟨hpost, hb2⟩
      have hnx2 : KpB2 3 25 w0.heap.size B1 B2 W w2 := kpB2_t hnx ⟨hb2.mono (h0W.trans hnx.1).size, fun xs h => h.below hb2 h.lt, fun xs h => h.below hb2 h.lt⟩
      have hJ2 : J ys w2 := hJ ys wr w2 Option.none hJs (grown_of_below hb2) (fun r e => by cases e)
      have hsz2 := hb2.size
      rcases hpost with ⟨hsm, v, rfl, hor⟩ | ⟨hsm, rfl⟩
      · obtain ⟨A, c, rfl⟩ := hor.shape
        have HSE : Hid (smTo p (k + 1) = smTo p k ++ [z]) := Lib.hid (by rw [HSM.out, if_pos hsm])
        clear hsm HSM
        have hylm : ys.length < m := by omega
        have hz99 : 0 ≤ z ∧ z ≤ 99 := by have := HK1.out; omega
        have hzn : z.toNat = k + 1 := by have := HK1.out; omega
        obtain ⟨fn, tmps, assign, body, hy, hR⟩ := hY ys ⟨(z, .slice A (expsTo p (k + 1) 1 p.length).length c), hz99, A, _, c, rfl⟩ w2 hJ2 (by rw [hzn]; exact hor) hylm
        dsimp only [smtEnc] at hy
        gi_wp2
        refine hR.mono ?_
        rintro e W3 (⟨rfl, hJ3, hk3⟩ | ⟨rfl, hJx3⟩)
        · gi_wp2
          go_roundw
          case rel => exact ⟨k + 1, _, by omega, by go_num, by rw [List.map_append, hys, HSE.out]; rfl, hJ3, kpB2_t hnx2 hk3, by have := hk3.1.size; omega⟩
          case measure => rw [← HK1.out]; simp [intOf]; omega
        · gi_wp2
          refine bodyPost_ret (results_none rfl _ _ _) rfl ?_
          exact ⟨⟨_, rfl⟩, .inr ⟨_, by rw [List.length_append]; simp; omega, hJx3⟩⟩
      · have HSE : Hid (smTo p (k + 1) = smTo p k) := Lib.hid (by rw [HSM.out, if_neg (by rw [hsm]; simp)])
        clear hsm HSM
        gi_wp2
        refine ⟨fun _ h => (by cases h), ?_⟩
        gi_wp2
        go_roundw
        case rel => exact ⟨k + 1, ys, by omega, by go_num, by rw [hys, HSE.out], hJ2, hnx2, by omega⟩
        case measure => rw [← HK1.out]; simp [intOf]; omega
    · obtain rfl : k = m := by omega
      have hdc : decide (((k + 1 : Nat) : Int) ≤ (k : Int)) = false := by rw [decide_eq_false_iff_not]; omega
      gi_wp2
      go_end0
      exact ⟨⟨_, rfl⟩, .inl ⟨ys, hys, hJs⟩⟩

end Go.Proofs.YtcfkclafpbaagaaGreatDoor

namespace Go.Proofs.YtcfkclafpbaagaaGreatDoor
open Go.RowKit Go.Lib Go.Shelf

/-- The iterator's contract: it yields x only where X x holds. -/
def SeqX {α : Type} (F : Fence) (n : Nat) (P : Program) (g : Nat) (lb : Array Value) (encs : α → Array Value) (Kp : World → World → Prop) (X : α → World → Prop) (S : List α → Prop) (N : Nat) (w : World) : Prop :=
  ∀ (l : Nat) (J : List α → World → Prop) (W : World), Below w.heap.size w W → AbidesFrom W.heap.size J →
    (∀ pre x W1, J pre W1 → X x W1 → pre.length < N → YieldAt F (n - 1) P l (encs x) W1 fun e W' => e = .returned (.bool true) ∧ J (pre ++ [x]) W' ∧ Kp W1 W') →
    J [] W → CallsIn F n P g (#[.func (.yield l) #[] #[]] ++ lb) W fun e W' => (∃ v, e = .returned v) ∧ ∃ xs, S xs ∧ J xs W'

theorem smooth_X (n : Nat) (hn : 1 ≤ n) (B1 B2 : Nat) (pv : Value) (p : List Int) (m : Nat) (w0 w : World) (hm : m ≤ 99) (hS : Std w0) (h0 : Below w0.heap.size w0 w) (hp : IsRow w0 w0.heap.size pv p) (hpe : primeErr p = 0)
    (hc1 : Cells w B1 3 [.int .i64 m]) (hc2 : Cells w B2 25 [pv]) :
    SeqX Fence.wide n Tryz.prog 85 #[.pointer (some ⟨B1, 0, Option.none⟩), .pointer (some ⟨B2, 0, Option.none⟩)] smtEnc (KpB2 3 25 w0.heap.size B1 B2) (fun x W => ORow W x.1.2 (expsTo p x.1.1.toNat 1 p.length)) (fun ys => ys.map (fun t => t.1.1) = smTo p m) m w := fun l J W hW hJ hY hJ0 =>
  (smooth1_rows n hn l B1 B2 w0.heap.size pv p m w0 J (fun _ _ => False) W hm hS rfl (h0.trans (hW.mono h0.size)) hJ hp hpe (fun pre x W1 h1 h2 h3 => by
    obtain ⟨fn, tmps, assign, body, hy, hR⟩ := hY pre x W1 h1 h2 h3
    exact ⟨fn, tmps, assign, body, hy, hR.mono fun e W' h => .inl h⟩) (hc1.below hW hc1.lt) (hc2.below hW hc2.lt) hJ0).mono (fun e W' h => by
    obtain ⟨h1, h2 | ⟨pre, _, h2⟩⟩ := h
    · exact ⟨h1, h2⟩
    · exact h2.elim)

end Go.Proofs.YtcfkclafpbaagaaGreatDoor

namespace Go.Proofs.YtcfkclafpbaagaaGreatDoor
open Go.RowKit Go.Lib Go.Shelf

theorem wpIn_rangeX {α : Type} {F : Fence} {n : Nat} {P : Program} {g : Operand} {ps : Array Tmp} {assign body : Code} {Q : Exit → Act → World → Prop} {a : Act} {w : World}
    (hro : F.round = none) (h1 : 1 ≤ n) {gf : Nat} {lb : Array Value} (hg : a.eval g = .func (.func gf) #[] lb) (hFg : F.fn gf) (eg : ∀ args w, (callFunc gf args).run P w = .ok (.enter gf args) w)
    {encs : α → Array Value} {Kp : World → World → Prop} {X : α → World → Prop} {S : List α → Prop} {N : Nat} {w0 : World} (hseq : SeqX F (n - 1) P gf lb encs Kp X S N w0)
    (hKt : ∀ {A B C : World}, Kp A B → Kp B C → Kp A C) (hKb : ∀ (W : World) (l : Nat) (o o' : Obj), w.heap.size ≤ l → W.heap[l]? = some o → o.isCells = false → o.isWalk = false → Kp W (W.putObj l o'))
    (hXb : ∀ (x : α) (W : World) (l : Nat) (o o' : Obj), W.heap[l]? = some o → o.isCells = false → X x W → X x (W.putObj l o')) (hb0 : Below w0.heap.size w0 w) (hps : ∀ x, (encs x).size = ps.size)
    (I : List α → World → Prop) (hI : OwnFrom w.heap.size I) (h0 : I [] w) (a₁ : α → Act)
    (hassign : ∀ (l : Nat) (x : α) (W : World) (K : Act → World → Prop), K (a₁ x) W →
      assign.wpIn (F.inRound l) (n - 1 - 1) P (Exit.then K (fun _ _ _ => False)) { tmps := (ps.zip (encs x)).foldl (fun t (p, v) => t.setIfInBounds p v) a.tmps, defers := [] } W)
    (hbody : ∀ (l : Nat) (pre : List α) (x : α) (W : World), I pre W → X x W → pre.length < N → body.wpIn (F.inRound l) (n - 1 - 1) P (fun e _ W' => e = .normal ∧ KeepsFrom w.heap.size W W' ∧ Kp W W' ∧ I (pre ++ [x]) W') (a₁ x) W)
    (hdone : ∀ (D : Nat) (xs : List α) (W : World), w.heap.size ≤ D → S xs → I xs W → W.heap[D]? = some (.deferred (some [])) → Q .normal { a with defers := { target := .collected D, args := #[] } :: a.defers } W) :
    (Code.rangeFunc g ps assign body).wpIn F n P Q a w := by
  refine wpIn_rangeFunc fun fn hfn => ?_
  rw [hro]
  let rec0 : LoopState → Loop := fun st => { state := st, pending := none, fn, tmps := a.tmps, params := ps, assign, body, defers := w.heap.size }
  obtain ⟨R, hR⟩ : ∃ R, R = rec0 := ⟨_, rfl⟩
  obtain ⟨V, hV⟩ : ∃ V, (w.alloc (.deferred (some []))).alloc (.loop (R .ready)) = V := ⟨_, rfl⟩
  have hL : V.heap[w.heap.size + 1]? = some (.loop (R .ready)) := by
    have := World.alloc_heap_new (w.alloc (.deferred (some []))) (.loop (R .ready))
    rw [World.size_alloc] at this
    rw [← hV]; exact this
  have hD : V.heap[w.heap.size]? = some (.deferred (some [])) := by
    rw [← hV]; exact (Below.heap_alloc _ _ _ (by simp)).trans (World.alloc_heap_new w _)
  have hIV : I [] V := by rw [← hV]; exact hI.alloc _ (hI.alloc _ h0)
  have hbV : Below w0.heap.size w0 V := by
    rw [← hV]; exact hb0.trans ((((Below.refl _ w).alloc (Nat.le_refl _) _).alloc (by simp) _).mono hb0.size)
  have hszV : w.heap.size ≤ V.heap.size := by rw [← hV]; simp; omega
  refine ⟨w.heap.size + 1, [{ target := .collected w.heap.size, args := #[] }], V, { target := .fn (.func gf) lb, args := #[.func (.yield (w.heap.size + 1)) #[] #[]] }, V, gf, #[.func (.yield (w.heap.size + 1)) #[] #[]] ++ lb, V, ?_, ?_, ?_, ?_, fun _ => h1, ?_⟩
  · rw [← hV, hR]; exact run_enterLoop_outer _ _ _ _ _
  · simp only [resolve, hg]; simp [go_sem]
  · intro f' hf'; simp [Target.leads] at hf'; subst hf'; exact hFg
  · simp [invoke, go_sem, eg]
  · refine (hseq (w.heap.size + 1) (fun pre W => I pre W ∧ W.heap[w.heap.size + 1]? = some (.loop (R .ready)) ∧ W.heap[w.heap.size]? = some (.deferred (some []))) V hbV
      (fun s A B row hs hg' hr => ⟨hI s A B row hs.1 hg' (fun r e => by obtain ⟨hB, o, ho, hw⟩ := hr r e; exact ⟨by omega, o, ho, Obj.not_cells_of_walk hw⟩), (grownBy_keeps hg' (fun r e => (hr r e).2) hs.2.1 rfl).trans hs.2.1, (grownBy_keeps hg' (fun r e => (hr r e).2) hs.2.2 rfl).trans hs.2.2⟩) ?_ ⟨hIV, hL, hD⟩).mono ?_
    · rintro pre x W ⟨hi, hl, hk⟩ hx hlen
      have hlt : w.heap.size + 1 < W.heap.size := (Array.getElem?_eq_some_iff.1 hl).1
      have hy := run_yield (P := P) (args := encs x) hl (by rw [hR]; exact hps x)
      rw [hR] at hy
      refine ⟨fn, _, assign, body, hy, roundIn_of_wpIn hfn (hassign _ x W _ ⟨_, run_beginRound hl (by rw [hR]), ?_⟩)⟩
      have hl2 : (W.putObj (w.heap.size + 1) (.loop { R .ready with state := .busy })).heap[w.heap.size + 1]? = some (.loop { R .ready with state := .busy }) := World.putObj_heap_same hlt
      have hk2 : (W.putObj (w.heap.size + 1) (.loop { R .ready with state := .busy })).heap[w.heap.size]? = some (.deferred (some [])) := (World.putObj_heap_other (by omega)).trans hk
      have hw2 : Kp W (W.putObj (w.heap.size + 1) (.loop { R .ready with state := .busy })) := hKb _ _ _ _ (by omega) hl rfl rfl
      refine wpIn_mono (hbody _ pre x _ (hI.putObj _ hi (by omega) hl rfl) (hXb x W _ _ _ hl rfl hx) hlen) ?_
      rintro e a3 W3 ⟨rfl, hk3, hp3, hi3⟩
      have hl3 := hk3.same _ _ (by omega) hl2 rfl
      have hr := run_endRound (P := P) none hl3
      rw [hR] at hr hl3
      refine ⟨_, _, hr, rfl, ⟨hI.putObj _ hi3 (by omega) hl3 rfl, ?_, (World.putObj_heap_other (by omega)).trans (hk3.same _ _ (Nat.le_refl _) hk2 rfl)⟩, hKt (hKt hw2 hp3) (hKb _ _ _ _ (by omega) hl3 rfl rfl)⟩
      rw [hR]
      exact World.putObj_heap_same (Array.getElem?_eq_some_iff.1 hl3).1
    · rintro e W2 ⟨⟨v, rfl⟩, xs, hS, hi, hl, hk⟩
      have hr := run_endLoop (P := P) hl (by rw [hR]; simp [rec0])
      rw [hR] at hr
      exact ⟨none, _, hr, hdone _ xs _ (Nat.le_refl _) hS (hI.putObj _ hi (by omega) hl rfl) ((World.putObj_heap_other (by omega)).trans hk)⟩

end Go.Proofs.YtcfkclafpbaagaaGreatDoor

namespace Go.Proofs.YtcfkclafpbaagaaGreatDoor
open Go.RowKit Go.Lib Go.Shelf

/-- The rows of the numbers. -/
def rowsT (p : List Int) (l : List Smt) : List (List Int) := l.map fun t => expsTo p t.1.1.toNat 1 p.length
/-- The rows of the right numbers up to m. -/
def rowsM (p : List Int) (m : Nat) : List (List Int) := (smTo p m).map fun z => expsTo p z.toNat 1 p.length
theorem rowsT_eq {p : List Int} {m : Nat} {l : List Smt} (h : l.map (fun t => t.1.1) = smTo p m) : rowsT p l = rowsM p m := by
  unfold rowsT rowsM
  rw [← h, List.map_map]
  rfl
theorem rowsT_next (p : List Int) (l : List Smt) (x : Smt) : rowsT p (l ++ [x]) = rowsT p l ++ [expsTo p x.1.1.toNat 1 p.length] := by
  unfold rowsT
  rw [List.map_append]
  rfl
theorem rowsT_len (p : List Int) (l : List Smt) : (rowsT p l).length = l.length := by unfold rowsT; rw [List.length_map]
theorem orow_put {x : List Int} {v : Value} {W : World} {l : Nat} {o o' : Obj} (hl : W.heap[l]? = some o) (ho : o.isCells = false) (h : ORow W v x) : ORow (W.putObj l o') v x := by
  refine World.ownsRow.kept h (grownBy_putObj' W l o') ?_
  by_cases hv : v.ownBlock = Option.none
  · exact .inl hv
  · right
    intro e
    rw [own_cells h l o e hl] at ho
    cases ho

end Go.Proofs.YtcfkclafpbaagaaGreatDoor
