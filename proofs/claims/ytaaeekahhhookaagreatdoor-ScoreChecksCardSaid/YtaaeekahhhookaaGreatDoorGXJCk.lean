import Derived.Test.YtaaeekahhhookaaGreatDoorGXICk
import Derived.Defers
import Derived.Recover
namespace Go.Proofs.YtaaeekahhhookaaGreatDoor
open Go.RowKit Go.Lib
set_option maxRecDepth 100000 in
set_option maxHeartbeats 2000000 in
theorem rdCatch_idle (p q : Addr) (w : World) :
  CallsD Tryz.prog 79 #[.pointer (some p), .pointer (some q)] .returning w fun e u' w' => e = .returned (.tuple #[]) ∧ u' = .returning ∧ w' = w := by
 refine callsD_of_wpS Tryz.func79 rfl fun c₀ cs hu => ?_
 simp only [Tryz.ntmps79, List.size_toArray, List.length_cons, List.length_nil, Nat.reduceAdd, Nat.reduceSub, Array.replicate_succ, Array.replicate_zero, List.push_toArray, List.append_toArray, List.nil_append, List.cons_append]
 apply wpS_seq
 apply wpS_region
 simp [wpOpsS, go_sem, recoverD, hu, Exit.thenS]
 refine wpS_of_wp ?_
 go_wp2_with fail
 cases c₀
 simp_all [bodyPostS, results, Tryz.results79]
theorem ta_fault (W : World) (a b c : Value) : (Instr.typeAssert (.iface 85 (.agg #[a, b, c])) 20 85 true).run Tryz.prog W = .ok (.tuple #[.agg #[a, b, c], .bool true]) W := by kernel_rfl
set_option maxRecDepth 100000 in
set_option maxHeartbeats 4000000 in
theorem rdCatch_fault (P Q : Nat) (f : Flt) (a b x y z : Value) (w : World) (older : List PanicEntry) (hP : Cells w P 29 [a, b]) (hQ : Cells w Q 85 [x, y, z]) (hPQ : P ≠ Q) :
  CallsD Tryz.prog 79 #[.pointer (some ⟨P, 0, Option.none⟩), .pointer (some ⟨Q, 0, Option.none⟩)] (.panicking ({ v := faultV f, recovered := false } :: older)) w fun e u' w' =>
   e = .returned (.tuple #[]) ∧ u' = .panicking ({ v := faultV f, recovered := true } :: older) ∧ Cells w' P 29 [.slice Option.none 0 0, .slice Option.none 0 0] ∧ Cells w' Q 85 [.int .i64 f.line, .int .i64 f.col, .int .i64 f.err] ∧ (∀ B, B ≤ P → B ≤ Q → Below B w w') := by
 obtain ⟨p0, p1⟩ := cel2 hP
 obtain ⟨q0, q1, q2⟩ := cel3 hQ
 have p2 := hP.free 0
 have p3 := hP.free 1
 have q3 := hQ.free 0
 have q4 := hQ.free 1
 have q5 := hQ.free 2
 have hta := ta_fault
 obtain ⟨fl, fc, fe⟩ := f
 unfold faultV
 dsimp only
 refine callsD_of_wpS Tryz.func79 rfl fun c₀ cs hu => ?_
 simp only [Tryz.ntmps79, List.size_toArray, List.length_cons, List.length_nil, Nat.reduceAdd, Nat.reduceSub, Array.replicate_succ, Array.replicate_zero, List.push_toArray, List.append_toArray, List.nil_append, List.cons_append]
 apply wpS_seq
 apply wpS_region
 simp [wpOpsS, go_sem, recoverD, hu, Exit.thenS]
 refine wpS_of_wp ?_
 go_wp2_with fail
 obtain ⟨W, hW⟩ : ∃ W, W = w.alloc (.cells #[.int .i64 fl, .int .i64 fc, .int .i64 fe] 85) := ⟨_, rfl⟩
 have hb : Below w.heap.size w W := by rw [hW]; exact (Below.refl _ _).alloc (Nat.le_refl _) _
 have HX := Cells.new w 85 #[.int .i64 fl, .int .i64 fc, .int .i64 fe]
 rw [← hW] at HX
 obtain ⟨x0, x1, x2⟩ := cel3 HX
 have HP := Lib.hid (hP.below hb hP.lt)
 have HQ := Lib.hid (hQ.below hb hQ.lt)
 have hPl := hP.lt
 have hQl := hQ.lt
 have HB := Lib.hid hb
 obtain ⟨XB, hXB⟩ : ∃ XB, XB = w.heap.size := ⟨_, rfl⟩
 rw [← hXB] at hPl hQl x0 x1 x2
 have hPX : P ≠ XB := by omega
 have hQX : Q ≠ XB := by omega
 have HXB : Box (XB = w.heap.size) := ⟨hXB⟩
 rw [← hW, ← hXB]
 clear p0 p1 p2 p3 q0 q1 q2 q3 q4 q5 hW hP hQ hb HX hta hXB
 obtain ⟨p0, p1⟩ := cel2 HP.out
 obtain ⟨q0, q1, q2⟩ := cel3 HQ.out
 have p2 := HP.out.free 0
 have p3 := HP.out.free 1
 have q3 := HQ.out.free 0
 have q4 := HQ.out.free 1
 have q5 := HQ.out.free 2
 go_region
 have c1 := ((((HP.out.set 0 (.slice Option.none 0 0)).set 1 (.slice Option.none 0 0)).far (p := ⟨Q, 0, Option.none⟩) hPQ (.int .i64 fl)).far (p := ⟨Q, 1, Option.none⟩) hPQ (.int .i64 fc)).far (p := ⟨Q, 2, Option.none⟩) hPQ (.int .i64 fe)
 have c2 := ((((HQ.out.far (p := ⟨P, 0, Option.none⟩) (Ne.symm hPQ) (.slice Option.none 0 0)).far (p := ⟨P, 1, Option.none⟩) (Ne.symm hPQ) (.slice Option.none 0 0)).set 0 (.int .i64 fl)).set 1 (.int .i64 fc)).set 2 (.int .i64 fe)
 have c3 : ∀ B, B ≤ P → B ≤ Q → Below B w _ := fun B hBP hBQ => below_to_drew ((((((HB.out.mono (by have := HXB.out; omega)).setCell (p := ⟨P, 0, Option.none⟩) hBP (.slice Option.none 0 0)).setCell (p := ⟨P, 1, Option.none⟩) hBP (.slice Option.none 0 0)).setCell (p := ⟨Q, 0, Option.none⟩) hBQ (.int .i64 fl)).setCell (p := ⟨Q, 1, Option.none⟩) hBQ (.int .i64 fc)).setCell (p := ⟨Q, 2, Option.none⟩) hBQ (.int .i64 fe))
 exact ⟨rfl, .panicking ({ v := .iface 85 (.agg #[.int .i64 fl, .int .i64 fc, .int .i64 fe]), recovered := true } :: older), rfl, _, results_none rfl _ _ _, rfl, rfl, c1, c2, c3⟩
theorem addEv_len : ∀ (vs : List Vc) (e : Ev), (addEv vs e).length = vs.length
 | [], _ => rfl
 | [_], _ => rfl
 | a :: b :: r, e => by
   have h := addEv_len (b :: r) e
   rw [addEv, List.length_cons, h]
   rfl
theorem addEv_evs {m : Nat} : ∀ (vs : List Vc) (e : Ev), (∀ v ∈ vs, v.evs.length ≤ m) → ∀ v ∈ addEv vs e, v.evs.length ≤ m + 1
 | [], _, _, v, hv => by simp [addEv] at hv
 | [a], e, h, v, hv => by
   simp [addEv] at hv
   subst hv
   have := h a (by simp)
   simp
   exact this
 | a :: b :: r, e, h, v, hv => by
   rw [addEv, List.mem_cons] at hv
   rcases hv with rfl | hv
   ·have := h v (by simp); omega
   ·exact addEv_evs (b :: r) e (fun v hv => h v (by simp at hv ⊢; exact .inr hv)) v hv
theorem lineP_ok {nt : List Int → Tok → List Int × Int} {l : List Tok} {p : List Int} {vs vs' : List Vc} {k j : Nat} (h : lineP nt l p vs k = .ok (j, vs')) (h1 : vs.length ≤ k) (h2 : ∀ v ∈ vs, v.evs.length ≤ k) : k < j ∧ vs'.length ≤ j ∧ ∀ v ∈ vs', v.evs.length ≤ j := by
 unfold lineP at h
 split at h
 ·unfold vcP at h
  split at h
  ·cases h
  ·rename_i hx
   injection h with h
   injection h with e1 e2
   subst e1 e2
   split at hx
   ·split at hx
    ·injection hx with hx
     injection hx with e3 e4
     subst e3 e4
     refine ⟨by omega, by simp; omega, fun v hv => ?_⟩
     rcases List.mem_append.1 hv with hv | hv
     ·have := h2 v hv; omega
     ·simp at hv; subst hv; simp
    ·cases hx
   ·cases hx
 ·split at h
  ·cases h
  ·split at h
   ·unfold evP at h
    split at h
    ·cases h
    ·rename_i hx
     injection h with h
     injection h with e1 e2
     subst e1 e2
     split at hx
     ·split at hx
      ·cases hx
      ·rename_i hn
       split at hx
       ·injection hx with hx
        injection hx with e3 e4
        have := ntRun_ge nt l p _ _ _ _ _ hn
        subst e3 e4
        refine ⟨by omega, by rw [addEv_len]; omega, fun v hv => ?_⟩
        have := addEv_evs vs _ h2 v hv
        omega
       ·cases hx
     ·cases hx
   ·cases h
theorem linesP_end {nt : List Int → Tok → List Int × Int} {l : List Tok} {p : List Int} {k : Nat} (hk : l.length ≤ k) : ∀ (f : Nat) (vs : List Vc), linesP nt l p f k vs = .ok vs
 | 0, _ => rfl
 | f + 1, vs => by rw [linesP, if_neg (by omega)]
theorem linesP_step {nt : List Int → Tok → List Int × Int} {l : List Tok} {p : List Int} {k f : Nat} {vs : List Vc} (hk : k < l.length) : linesP nt l p (f + 1) k vs = match lineP nt l p vs k with
  | .error e => .error e
  | .ok (j, vs') => linesP nt l p f j vs' := by
 rw [linesP, if_pos hk]
 cases lineP nt l p vs k <;> rfl
theorem rdLine_any {w0 w : World} {g r c k : Nat} {A : Option Addr} {l : List Tok} {pv vv : Value} {p : List Int} {vs : List Vc} (hS : Std w0) (hp0 : primeErr p = 0) (hpl : p.length ≤ 1000) (h : RdS w0 w g r A c l k pv vv p vs) (hk : k < l.length) (hr : ∀ t ∈ l, t.row.length ≤ 1000) (hln : l.length ≤ 1000) (hnum : ∀ t ∈ l, t.kind = 2 → NumTok t) (h1 : vs.length ≤ k) (h2 : ∀ v ∈ vs, v.evs.length ≤ k) :
  Calls Tryz.prog 83 #[.pointer (some ⟨r, 0, Option.none⟩)] w fun e w' => LnPost w0 w' g r A c l pv p (lineP ntP l p vs k) e := by
 cases ht : textAt l k 1 [118, 111, 105, 99, 101] with
 | true => exact rdLine_voice h hk hr hln ht (by omega)
 | false =>
   cases vs with
   | nil => exact rdLine_none h hk hr hln ht
   | cons v0 vr =>
     cases hn : kindAt l k 2 with
     | false => exact rdLine_num h hk hr hln ht (by simp) hn
     | true =>
       cases ha : accAt l (k + 1) with
       | false => exact rdLine_colon h hk hr hln ht (by simp) hn ha
       | true => exact rdLine_event hS hp0 hpl h hk hr hln hnum ht (by simp) (fun v hv => by have := h2 v hv; omega) hn ha
def RdPost (w' : World) (x : Except Flt Sc) (e : Ending) : Prop := match x with
 | .error f => e = .returned (.tuple #[.agg #[.slice Option.none 0 0, .slice Option.none 0 0], .agg #[.int .i64 f.line, .int .i64 f.col, .int .i64 f.err]])
 | .ok s => ∃ pv vv, e = .returned (.tuple #[.agg #[pv, vv], .agg #[.int .i64 0, .int .i64 0, .int .i64 0]]) ∧ ScV w' w'.heap.size pv vv s
noncomputable def rdFin (ps : List Int) (x : Except Flt (List Vc)) : Except Flt Sc := match x with
 | .error e => .error e
 | .ok vs => .ok ⟨ps, vs⟩
noncomputable def rdMid (l : List Tok) (x : Except Flt (Nat × List Int)) : Except Flt Sc := match x with
 | .error e => .error e
 | .ok (k, ps) => rdFin ps (linesP ntP l ps (l.length + 1) k [])
theorem readP_mid {l : List Tok} (h : 0 < l.length) : readP smP primeErr ntP l = rdMid l (prP smP primeErr l) := by
 unfold readP rdMid rdFin
 rw [if_neg (by omega)]
 cases prP smP primeErr l with
 | error e => rfl
 | ok x =>
   obtain ⟨k, ps⟩ := x
   dsimp only
   cases linesP ntP l ps (l.length + 1) k [] <;> rfl
theorem primeErr_len {p : List Int} (h : primeErr p = 0) : p.length ≤ 6 := by
 unfold primeErr at h
 split at h
 ·omega
 ·split at h
  ·omega
  ·omega
theorem prP_ok {l : List Tok} {k : Nat} {ps : List Int} (h : prP smP primeErr l = .ok (k, ps)) : primeErr ps = 0 := by
 unfold prP at h
 split at h
 ·split at h
  ·cases h
  ·split at h
   ·split at h
    ·rename_i hp
     injection h with h
     injection h with _ h
     rw [← h]
     exact hp
    ·cases h
   ·cases h
 ·cases h
set_option maxRecDepth 100000 in
set_option maxHeartbeats 8000000 in
theorem scRead_none (A : Option Addr) (c : Nat) (w : World) :
  Calls Tryz.prog 27 #[.slice A 0 c] w fun e w' => RdPost w' (readP smP primeErr ntP []) e ∧ Below w.heap.size w w' := by
 have HX : Box (readP smP primeErr ntP [] = .error ⟨1, 1, 15⟩) := ⟨rfl⟩
 rw [HX.out]
 go_enter_defers Tryz.func27, Tryz.ntmps27
 go_wp2_with fail
 refine ⟨.tuple #[.agg #[.slice Option.none 0 0, .slice Option.none 0 0], .agg #[.int .i64 1, .int .i64 1, .int .i64 15]], by simp (maxDischargeDepth := 10) [results, Tryz.results27, go_sem], rfl, ?_⟩
 exact ((Below.refl _ _).alloc (Nat.le_refl _) _).alloc (by simp) _
set_option maxRecDepth 100000 in
set_option maxHeartbeats 8000000 in
theorem scRead_some (v : Value) (l : List Tok) (w : World) (hS : Std w) (hv : IsToks w w.heap.size v l) (h0 : 0 < l.length) (hr : ∀ t ∈ l, t.row.length ≤ 1000) (hln : l.length ≤ 1000) (hnum : ∀ t ∈ l, t.kind = 2 → NumTok t) :
  Calls Tryz.prog 27 #[v] w fun e w' => RdPost w' (readP smP primeErr ntP l) e ∧ Below w.heap.size w w' := by
 obtain ⟨W0, hW0⟩ : ∃ W0, W0 = (w.alloc (.cells #[.slice Option.none 0 0, .slice Option.none 0 0] 29)).alloc (.cells #[.int .i64 0, .int .i64 0, .int .i64 0] 85) := ⟨_, rfl⟩
 have hb0 : Below w.heap.size w W0 := by rw [hW0]; exact ((Below.refl _ _).alloc (Nat.le_refl _) _).alloc (by simp) _
 have HP0 : Hid (Cells W0 w.heap.size 29 [.slice Option.none 0 0, .slice Option.none 0 0]) := Lib.hid (by rw [hW0]; exact (Cells.new w 29 #[.slice Option.none 0 0, .slice Option.none 0 0]).alloc _)
 have HQ0 : Hid (Cells W0 (w.heap.size + 1) 85 [.int .i64 0, .int .i64 0, .int .i64 0]) := Lib.hid (by
  have h := Cells.new (w.alloc (.cells #[.slice Option.none 0 0, .slice Option.none 0 0] 29)) 85 #[.int .i64 0, .int .i64 0, .int .i64 0]
  rw [World.size_alloc] at h
  rw [hW0]
  exact h)
 have HB0 := Lib.hid hb0
 have HS0 := Lib.hid (hS.below hb0 (Nat.le_refl _))
 have HOP := Lib.hid (open_any v l W0 (hv.lift hb0) hr hln)
 have HRR : Box (∀ t ∈ l, t.row.length ≤ 1000) := ⟨hr⟩
 have HNM : Box (∀ t ∈ l, t.kind = 2 → NumTok t) := ⟨hnum⟩
 obtain ⟨X, HX⟩ : ∃ X, Box (prP smP primeErr l = X) := ⟨_, ⟨rfl⟩⟩
 have HOX : Box (readP smP primeErr ntP l = rdMid l X) := ⟨by rw [readP_mid h0, HX.out]⟩
 generalize readP smP primeErr ntP l = out at *
 obtain ⟨AX, cx, _, rfl, _⟩ := hv
 have hl0 : ¬ ((l.length : Int) = 0) := by omega
 have hmf : ∀ (fn : Fn) (first cap : Array Value) (w : World), (Instr.makeFunc fn first cap).run Tryz.prog w = .ok (.func fn first cap) w := fun _ _ _ _ => rfl
 clear hb0 hr hnum hS
 go_enter_defers Tryz.func27, Tryz.ntmps27
 go_upto_region 1 with (fail)
 rw [← hW0]
 clear hW0
 go_wp2_with fail
 refine HOP.out.mono ?_
 rintro e w1 ⟨⟨g, r1A, c, rfl, hg, hs1⟩, hb1⟩
 obtain ⟨W2, hW2⟩ : ∃ W2, W2 = w1.alloc (.cells #[.pointer (some ⟨g, 0, Option.none⟩), .slice Option.none 0 0, .slice Option.none 0 0] 162) := ⟨_, rfl⟩
 have hb2 : Below w1.heap.size w1 W2 := by rw [hW2]; exact (Below.refl _ _).alloc (Nat.le_refl _) _
 have hcr := Cells.new w1 162 #[.pointer (some ⟨g, 0, Option.none⟩), .slice Option.none 0 0, .slice Option.none 0 0]
 rw [← hW2] at hcr
 have HCR := Lib.hid hcr
 have HS2 := Lib.hid (hs1.below hb2)
 have HB2 := Lib.hid (hb1.trans (hb2.mono hb1.size))
 have hgw : g < w1.heap.size := Cells.lt hs1.strm
 have hw1 := hb1.size
 obtain ⟨r, hre⟩ : ∃ r, r = w1.heap.size := ⟨_, rfl⟩
 rw [← hre] at HCR
 have hrg : r ≠ g := by omega
 have hr0 : W0.heap.size ≤ r := by omega
 clear hb2 hb1 hcr hs1 HOP
 go_upto_region 5 with (fail)
 rw [← hW2, ← hre]
 clear hW2 hre
 have HPR := Lib.hid (rdPrimes_any HS2.out h0 HRR.out hln HCR.out hrg HNM.out)
 have HPE : Box (∀ k ps, X = .ok (k, ps) → primeErr ps = 0) := ⟨fun k ps h => prP_ok (HX.out.trans h)⟩
 rw [HX.out] at HPR
 clear HX
 cases X with
 | error f =>
   have HOE : Box (out = .error f) := ⟨by rw [HOX.out]; rfl⟩
   go_wp2_with fail
   refine HPR.out.mono ?_
   rintro e w3 ⟨ho3, rfl⟩
   have HBX : Below W0.heap.size W0 w3 := HB2.out.trans ((ho3.mono HB2.out.size).below hg hr0)
   go_wp2_with fail
   refine leaves_cons (f := 79) (args := #[.pointer (some ⟨w.heap.size, 0, Option.none⟩), .pointer (some ⟨w.heap.size + 1, 0, Option.none⟩)]) (by simp) (by simp [go_sem]) ?_
   refine (rdCatch_fault w.heap.size (w.heap.size + 1) f _ _ _ _ _ _ [] (HP0.out.below HBX HP0.out.lt) (HQ0.out.below HBX HQ0.out.lt) (by omega)).mono ?_
   rintro e u' w9 ⟨rfl, rfl, hP9, hQ9, hB9⟩
   obtain ⟨y0, y1⟩ := cel2 hP9
   obtain ⟨y2, y3, y4⟩ := cel3 hQ9
   have HBF := Lib.hid (HB0.out.trans ((HBX.mono HB0.out.size).trans (hB9 w.heap.size (Nat.le_refl _) (by omega))))
   rw [HOE.out]
   refine ⟨.tuple #[.agg #[.slice Option.none 0 0, .slice Option.none 0 0], .agg #[.int .i64 f.line, .int .i64 f.col, .int .i64 f.err]], by simp (maxDischargeDepth := 10) [results, Tryz.results27, go_sem, y0, y1, y2, y3, y4], rfl, HBF.out⟩
 | ok x =>
   obtain ⟨k0, ps⟩ := x
   obtain ⟨Y, HY⟩ : ∃ Y, Box (linesP ntP l ps (l.length + 1) k0 [] = Y) := ⟨_, ⟨rfl⟩⟩
   have HOE : Box (out = rdFin ps Y) := ⟨by rw [HOX.out]; show rdFin ps (linesP ntP l ps (l.length + 1) k0 []) = _; rw [HY.out]⟩
   have hpe := HPE.out k0 ps rfl
   have hpl : ps.length ≤ 1000 := by have := primeErr_len hpe; omega
   have HPE1 : Box (primeErr ps = 0) := ⟨hpe⟩
   clear HOX HPE hpe
   go_wp2_with fail
   refine HPR.out.mono ?_
   rintro e w3 ⟨ho3, rfl, hk0, pv, hs3, hc3, how3⟩
   obtain ⟨AP3, cP3, rfl, _⟩ := Row.of_own how3
   have hbx : Below W0.heap.size W0 w3 := HB2.out.trans ((ho3.mono HB2.out.size).below hg hr0)
   have HRD := Lib.hid (RdS.mk hs3 hc3 (own_base how3 HB2.out.size) (VsO.nil _ _) hbx hg hr0 hrg)
   clear ho3 hs3 hc3 how3 hbx HPR HS2 HB2 HCR
   go_wp2_with fail
   go_loopw [] (fun wr => ∃ (k f : Nat) (vs : List Vc) (vv : Value), k ≤ l.length ∧ l.length < f + k ∧ vs.length ≤ k ∧ (∀ v ∈ vs, v.evs.length ≤ k) ∧ RdS W0 wr g r r1A c l k (.slice AP3 ps.length cP3) vv ps vs ∧ Box (linesP ntP l ps f k vs = Y)) (fun wr => l.length - plc g wr)
   case atStart => exact ⟨k0, l.length + 1, [], _, hk0, by omega, Nat.zero_le _, by simp, HRD.out, ⟨HY.out⟩⟩
   case round =>
    clear HRD HY hk0
    obtain ⟨k, f, vs, vv, hk, hf, hvl, hve, hrd, HLX⟩ := hrel
    have hpc := plc_eq hrd.str
    obtain ⟨q0, q1, q2⟩ := cel3 hrd.cel
    have HMK := Lib.hid (mark_any g _ _ _ hrd.str.strm)
    have HRD := Lib.hid hrd
    by_cases hlt : k < l.length
    ·obtain ⟨f, rfl⟩ : ∃ f', f = f' + 1 := ⟨f - 1, by omega⟩
     have HLN := Lib.hid (rdLine_any HS0.out HPE1.out hpl hrd hlt HRR.out hln HNM.out hvl hve)
     have HLS : Box (Y = match lineP ntP l ps vs k with | .error e => .error e | .ok (j, vs') => linesP ntP l ps f j vs') := ⟨by rw [← HLX.out, linesP_step hlt] <;> (cases lineP ntP l ps vs k <;> rfl)⟩
     have HLO : Box (∀ j vs', lineP ntP l ps vs k = .ok (j, vs') → k < j ∧ vs'.length ≤ j ∧ ∀ v ∈ vs', v.evs.length ≤ j) := ⟨fun j vs' h => lineP_ok h hvl hve⟩
     generalize lineP ntP l ps vs k = Z at *
     clear hrd HLX hve
     cases Z with
     | error fl =>
       have HOF : Box (out = .error fl) := ⟨by rw [HOE.out, HLS.out]; rfl⟩
       go_wp2_with fail
       refine HMK.out.mono ?_
       rintro e w4 ⟨rfl, rfl⟩
       go_wp2_with fail
       refine HLN.out.mono ?_
       rintro e w5 ⟨hb5, rfl⟩
       have HBX := Lib.hid hb5
       go_wp2_with fail
       refine leaves_cons (f := 79) (args := #[.pointer (some ⟨w.heap.size, 0, Option.none⟩), .pointer (some ⟨w.heap.size + 1, 0, Option.none⟩)]) (by simp) (by simp [go_sem]) ?_
       refine (rdCatch_fault w.heap.size (w.heap.size + 1) fl _ _ _ _ _ _ [] (HP0.out.below HBX.out HP0.out.lt) (HQ0.out.below HBX.out HQ0.out.lt) (by omega)).mono ?_
       rintro e u' w9 ⟨rfl, rfl, hP9, hQ9, hB9⟩
       obtain ⟨y0, y1⟩ := cel2 hP9
       obtain ⟨y2, y3, y4⟩ := cel3 hQ9
       have HBF := Lib.hid (HB0.out.trans ((HBX.out.mono HB0.out.size).trans (hB9 w.heap.size (Nat.le_refl _) (by omega))))
       rw [HOF.out]
       refine ⟨.tuple #[.agg #[.slice Option.none 0 0, .slice Option.none 0 0], .agg #[.int .i64 fl.line, .int .i64 fl.col, .int .i64 fl.err]], by simp (maxDischargeDepth := 10) [results, Tryz.results27, go_sem, y0, y1, y2, y3, y4], rfl, HBF.out⟩
     | ok x =>
       obtain ⟨j, vs2⟩ := x
       obtain ⟨hj1, hj2, hj3⟩ := HLO.out j vs2 rfl
       go_wp2_with fail
       refine HMK.out.mono ?_
       rintro e w4 ⟨rfl, rfl⟩
       go_wp2_with fail
       refine HLN.out.mono ?_
       rintro e w5 ⟨hb5, rfl, hj, vv2, hrd2⟩
       go_wp2_with fail
       go_roundw
       case rel => exact ⟨j, f, vs2, vv2, hj, by omega, hj2, hj3, hrd2, ⟨HLS.out.symm⟩⟩
       case measure => rw [plc_eq hrd2.str, hpc]; omega
    ·obtain rfl : k = l.length := by omega
     have HOF : Box (out = .ok ⟨ps, vs⟩) := ⟨by rw [HOE.out, ← HLX.out, linesP_end (Nat.le_refl _)]; rfl⟩
     have hP1 := HP0.out.below hrd.low HP0.out.lt
     obtain ⟨AV3, cV3, rfl, hV1, hV2, hV3⟩ := hrd.vso.shape
     have HVT := Lib.hid hV3
     have hQ1 := HQ0.out.below hrd.low HQ0.out.lt
     have HP1 := Lib.hid hP1
     have HQ1 := Lib.hid hQ1
     have y0 := hP1.free 0
     have y1 := hP1.free 1
     have y2 := hQ1.free 0
     have y3 := hQ1.free 1
     have y4 := hQ1.free 2
     obtain ⟨p0, p1⟩ := cel2 hP1
     obtain ⟨p2, p3, p4⟩ := cel3 hQ1
     clear hP1 hQ1
     go_wp2_with fail
     refine HMK.out.mono ?_
     rintro e w4 ⟨rfl, rfl⟩
     go_wp2_with fail
     have hc1 := ((((HP1.out.set 0 (.slice AP3 ps.length cP3)).set 1 (.slice AV3 vs.length cV3)).far (p := ⟨w.heap.size + 1, 0, Option.none⟩) (by show w.heap.size ≠ w.heap.size + 1; omega) (.int .i64 0)).far (p := ⟨w.heap.size + 1, 1, Option.none⟩) (by show w.heap.size ≠ w.heap.size + 1; omega) (.int .i64 0)).far (p := ⟨w.heap.size + 1, 2, Option.none⟩) (by show w.heap.size ≠ w.heap.size + 1; omega) (.int .i64 0)
     have hc2 := ((((HQ1.out.far (p := ⟨w.heap.size, 0, Option.none⟩) (by show w.heap.size + 1 ≠ w.heap.size; omega) (.slice AP3 ps.length cP3)).far (p := ⟨w.heap.size, 1, Option.none⟩) (by show w.heap.size + 1 ≠ w.heap.size; omega) (.slice AV3 vs.length cV3)).set 0 (.int .i64 0)).set 1 (.int .i64 0)).set 2 (.int .i64 0)
     have hty1 := TyB.of_cells HP1.out
     have hq1 := ((HQ1.out.far (p := ⟨w.heap.size, 0, Option.none⟩) (by show w.heap.size + 1 ≠ w.heap.size; omega) (.slice AP3 ps.length cP3)).far (p := ⟨w.heap.size, 1, Option.none⟩) (by show w.heap.size + 1 ≠ w.heap.size; omega) (.slice AV3 vs.length cV3))
     have hk1 : KpT [29, 85] wr.heap.size wr (((((wr.setCell ⟨w.heap.size, 0, Option.none⟩ (.slice AP3 ps.length cP3)).setCell ⟨w.heap.size, 1, Option.none⟩ (.slice AV3 vs.length cV3)).setCell ⟨w.heap.size + 1, 0, Option.none⟩ (.int .i64 0)).setCell ⟨w.heap.size + 1, 1, Option.none⟩ (.int .i64 0)).setCell ⟨w.heap.size + 1, 2, Option.none⟩ (.int .i64 0)) :=
      (((((KpT.refl _ _ _).setCell hty1 (by simp) _).setCell (TyB.of_cells (HP1.out.set 0 (.slice AP3 ps.length cP3))) (by simp) _).setCell (TyB.of_cells hq1) (by simp) _).setCell (TyB.of_cells (hq1.set 0 (.int .i64 0))) (by simp) _).setCell (TyB.of_cells ((hq1.set 0 (.int .i64 0)).set 1 (.int .i64 0))) (by simp) _
     have hsc : ScV wr wr.heap.size (.slice AP3 ps.length cP3) (.slice AV3 vs.length cV3) ⟨ps, vs⟩ := ⟨IRow.of_trow (TRow.of_own HRD.out.prs), AV3, cV3, rfl, hV1, hV2, HVT.out⟩
     have HSF := Lib.hid (hsc.keep hk1 (by decide) (by decide) (by decide) (by decide) hk1.size)
     have HBF := Lib.hid (((((HB0.out.trans (HRD.out.low.mono HB0.out.size)).setCell (p := ⟨w.heap.size, 0, Option.none⟩) (Nat.le_refl _) (.slice AP3 ps.length cP3)).setCell (p := ⟨w.heap.size, 1, Option.none⟩) (Nat.le_refl _) (.slice AV3 vs.length cV3)).setCell (p := ⟨w.heap.size + 1, 0, Option.none⟩) (Nat.le_succ _) (.int .i64 0)).setCell (p := ⟨w.heap.size + 1, 1, Option.none⟩) (Nat.le_succ _) (.int .i64 0))
     have HBG := Lib.hid (HBF.out.setCell (p := ⟨w.heap.size + 1, 2, Option.none⟩) (Nat.le_succ _) (.int .i64 0))
     refine leaves_cons (f := 79) (args := #[.pointer (some ⟨w.heap.size, 0, Option.none⟩), .pointer (some ⟨w.heap.size + 1, 0, Option.none⟩)]) (by simp) (by simp [go_sem]) ?_
     refine (rdCatch_idle _ _ _).mono ?_
     rintro e u' w9 ⟨rfl, rfl, rfl⟩
     obtain ⟨t0, t1⟩ := cel2 hc1
     obtain ⟨t2, t3, t4⟩ := cel3 hc2
     rw [HOF.out]
     refine ⟨.tuple #[.agg #[.slice AP3 ps.length cP3, .slice AV3 vs.length cV3], .agg #[.int .i64 0, .int .i64 0, .int .i64 0]], by simp (maxDischargeDepth := 10) [results, Tryz.results27, go_sem, t0, t1, t2, t3, t4], ⟨_, _, rfl, HSF.out⟩, HBG.out⟩
end Go.Proofs.YtaaeekahhhookaaGreatDoor
