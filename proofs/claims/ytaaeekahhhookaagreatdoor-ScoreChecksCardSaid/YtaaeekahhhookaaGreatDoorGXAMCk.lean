import Derived.Test.YtaaeekahhhookaaGreatDoorGXPMCk
import Derived.Test.YtaaeekahhhookaaGreatDoorFSgMCk
import Derived.Test.YtaaeekahhhookaaGreatDoorGIMCk
namespace Go.Proofs.YtaaeekahhhookaaGreatDoor
open Go.RowKit Go.Lib
structure Ev where
 num : List UInt8
 den : List UInt8
 notes : List (List Int)
structure Vc where
 name : List UInt8
 evs : List Ev
structure Sc where
 primes : List Int
 voices : List Vc
structure Flt where
 line : Int
 col : Int
 err : Int
section
variable (sm : List UInt8 → List UInt8 → Option Int) (pc : List Int → Int) (nt : List Int → Tok → List Int × Int) (l : List Tok)
def fltAt (k : Nat) (e : Int) : Flt := match l[min k (l.length - 1)]? with
 | some t => ⟨t.line, t.col, e⟩
 | none => ⟨0, 0, e⟩
def kindAt (k : Nat) (q : Int) : Bool := match l[k]? with
 | some t => t.kind == q
 | none => false
def textAt (k : Nat) (q : Int) (s : List UInt8) : Bool := match l[k]? with
 | some t => t.kind == q && t.text == s
 | none => false
def tokAt (k : Nat) : Tok := l[k]?.getD ⟨0, [], [], [], [], 0, 0⟩
def prRun : Nat → Nat → List Int → Except Flt (Nat × List Int)
 | 0, k, acc => .ok (k, acc)
 | f + 1, k, acc =>
   if kindAt l k 2 then
    match sm (tokAt l k).num (tokAt l k).den with
    | some n => prRun f (k + 1) (acc ++ [n])
    | none => .error (fltAt l k 27)
   else .ok (k, acc)
def ntRun (p : List Int) : Nat → Nat → List (List Int) → Except Flt (Nat × List (List Int))
 | 0, k, acc => .ok (k, acc)
 | f + 1, k, acc =>
   if kindAt l k 2 || kindAt l k 3 then
    if (nt p (tokAt l k)).2 = 0 then ntRun p f (k + 1) (acc ++ [(nt p (tokAt l k)).1]) else .error (fltAt l k (nt p (tokAt l k)).2)
   else .ok (k, acc)
def accAt (k : Nat) : Bool := textAt l k 1 [58] || textAt l k 5 [58]
def prP : Except Flt (Nat × List Int) :=
 if textAt l 0 1 [112, 114, 105, 109, 101, 115] then
  match prRun sm l (l.length + 1) 1 [] with
  | .error e => .error e
  | .ok (k, ps) => if kindAt l k 6 then (if pc ps = 0 then .ok (k + 1, ps) else .error (fltAt l 0 (pc ps))) else .error (fltAt l k 15)
 else .error (fltAt l 0 15)
def evP (c : Bool) (p : List Int) (k : Nat) : Except Flt (Nat × Ev) :=
 if c then
  match ntRun nt l p (l.length + 1) (k + 2) [] with
  | .error e => .error e
  | .ok (j, ns) => if kindAt l j 6 then .ok (j + 1, ⟨(tokAt l k).num, (tokAt l k).den, ns⟩) else .error (fltAt l j 15)
 else .error (fltAt l (k + 1) 15)
def vcP (k : Nat) : Except Flt (Nat × Vc) :=
 if kindAt l (k + 1) 1 then
  if kindAt l (k + 2) 6 then .ok (k + 3, ⟨(tokAt l (k + 1)).text, []⟩) else .error (fltAt l (k + 2) 15)
 else .error (fltAt l (k + 1) 15)
def addEv : List Vc → Ev → List Vc
 | [], _ => []
 | [v], e => [⟨v.name, v.evs ++ [e]⟩]
 | v :: w :: vs, e => v :: addEv (w :: vs) e
def lineP (p : List Int) (vs : List Vc) (k : Nat) : Except Flt (Nat × List Vc) :=
 if textAt l k 1 [118, 111, 105, 99, 101] then
  match vcP l k with
  | .error e => .error e
  | .ok (j, v) => .ok (j, vs ++ [v])
 else if vs.length = 0 then .error (fltAt l k 15)
 else if kindAt l k 2 then
  match evP nt l (accAt l (k + 1)) p k with
  | .error e => .error e
  | .ok (j, x) => .ok (j, addEv vs x)
 else .error (fltAt l k 15)
def linesP (p : List Int) : Nat → Nat → List Vc → Except Flt (List Vc)
 | 0, _, vs => .ok vs
 | f + 1, k, vs =>
   if k < l.length then
    match lineP nt l p vs k with
    | .error e => .error e
    | .ok (j, vs') => linesP p f j vs'
   else .ok vs
def readP : Except Flt Sc :=
 if l.length = 0 then .error ⟨1, 1, 15⟩ else
 match prP sm pc l with
 | .error e => .error e
 | .ok (k, ps) =>
   match linesP nt l ps (l.length + 1) k [] with
   | .error e => .error e
   | .ok vs => .ok ⟨ps, vs⟩
theorem ntRun_ge (p : List Int) : ∀ f k acc j ns, ntRun nt l p f k acc = .ok (j, ns) → k ≤ j
 | 0, k, acc, j, ns, h => by
   rw [ntRun] at h
   cases h
   exact Nat.le_refl _
 | f + 1, k, acc, j, ns, h => by
   rw [ntRun] at h
   split at h
   ·split at h
    ·exact Nat.le_trans (Nat.le_succ k) (ntRun_ge p f (k + 1) _ j ns h)
    ·cases h
   ·cases h
    exact Nat.le_refl _
theorem kindAt_lt {k : Nat} {q : Int} (h : kindAt l k q = true) : k < l.length := by
 unfold kindAt at h
 split at h
 ·rename_i t ht
  exact (List.getElem?_eq_some_iff.1 ht).1
 ·cases h
theorem addEv_last (vs : List Vc) (v : Vc) (e : Ev) : addEv (vs ++ [v]) e = vs ++ [⟨v.name, v.evs ++ [e]⟩] := by
 induction vs with
 | nil => rfl
 | cons u vs ih =>
   cases vs with
   | nil => rfl
   | cons u2 vs2 =>
     show addEv (u :: u2 :: (vs2 ++ [v])) e = _
     rw [addEv]
     exact congrArg (u :: ·) ih
end
end Go.Proofs.YtaaeekahhhookaaGreatDoor
namespace Go.Proofs.YtaaeekahhhookaaGreatDoor
open Go.RowKit Go.Lib
def ltr (c : UInt8) : Bool := (decide (97 ≤ c.toNat) && decide (c.toNat ≤ 122)) || (decide (65 ≤ c.toNat) && decide (c.toNat ≤ 90))
def sgnB (c : UInt8) : Bool := (decide (48 ≤ c.toNat) && decide (c.toNat ≤ 57)) || (c == 95 || (c == 35 || c == 39))
def nameB : List UInt8 → Bool
 | [] => false
 | c :: r => decide (r.length < 32) && (ltr c && r.all fun d => ltr d || sgnB d)
def nmAt (s : List UInt8) (k : Nat) : Bool := ltr (s[k]?.getD 0) || (decide (k ≠ 0) && sgnB (s[k]?.getD 0))
def nmTo (s : List UInt8) (k : Nat) : Bool := (List.range k).all (nmAt s)
theorem nmTo_succ (s : List UInt8) (k : Nat) : nmTo s (k + 1) = (nmTo s k && nmAt s k) := by
 unfold nmTo
 rw [List.range_succ, List.all_append]
 simp
theorem nmTo_all {s : List UInt8} {k : Nat} : nmTo s k = true ↔ ∀ j, j < k → nmAt s j = true := by
 unfold nmTo
 rw [List.all_eq_true]
 exact ⟨fun h j hj => h j (List.mem_range.2 hj), fun h j hj => h j (List.mem_range.1 hj)⟩
theorem nameB_eq (s : List UInt8) : nameB s = (decide (0 < s.length) && (decide (s.length ≤ 32) && nmTo s s.length)) := by
 cases s with
 | nil => rfl
 | cons c r =>
   rw [nameB, decide_eq_true (by simp : 0 < (c :: r).length), Bool.true_and]
   have h1 : decide (r.length < 32) = decide ((c :: r).length ≤ 32) := decide_eq_decide.2 (by rw [List.length_cons]; omega)
   rw [h1]
   congr 1
   rw [Bool.eq_iff_iff, nmTo_all, Bool.and_eq_true, List.all_eq_true]
   constructor
   ·rintro ⟨h2, h3⟩ j hj
    cases j with
    | zero => unfold nmAt; simp [h2]
    | succ j =>
      have hj2 : j < r.length := by rw [List.length_cons] at hj; omega
      have := h3 r[j] (List.getElem_mem hj2)
      unfold nmAt
      simp only [List.getElem?_cons_succ, List.getElem?_eq_getElem hj2, Option.getD_some]
      simpa using this
   ·intro h
    refine ⟨?_, fun d hd => ?_⟩
    ·have := h 0 (by simp)
     unfold nmAt at this
     simpa using this
    ·obtain ⟨j, hj, rfl⟩ := List.getElem_of_mem hd
     have := h (j + 1) (by rw [List.length_cons]; omega)
     unfold nmAt at this
     simp only [List.getElem?_cons_succ, List.getElem?_eq_getElem hj, Option.getD_some] at this
     simpa using this
open Classical in
noncomputable def evErr (p : List Int) (x : Ev) : Int :=
 if FracB x.num x.den then (if ∃ n : Int, x.num = itoa n ∧ 0 < n then (if 12 < x.notes.length then 4 else chkAll p x.notes) else 3) else 2
noncomputable def evsErr (p : List Int) : List Ev → Int
 | [] => 0
 | x :: r => if evErr p x ≠ 0 then evErr p x else evsErr p r
noncomputable def vcErr (p : List Int) (l : List Vc) (v : Vc) : Int :=
 if nameB v.name then (if l.any (fun w => w.name == v.name) then 9 else if 500 < v.evs.length then 4 else evsErr p v.evs) else 8
noncomputable def vcsErr (p : List Int) (l : List Vc) : List Vc → Int
 | [] => 0
 | v :: r => if vcErr p l v ≠ 0 then vcErr p l v else vcsErr p (l ++ [v]) r
noncomputable def scErr (s : Sc) : Int := if primeErr s.primes ≠ 0 then primeErr s.primes else if 8 < s.voices.length then 4 else vcsErr s.primes [] s.voices
theorem evsErr_drop {p : List Int} {l : List Ev} {k : Nat} (hk : k < l.length) : evsErr p (l.drop k) = if evErr p (l[k]'hk) ≠ 0 then evErr p (l[k]'hk) else evsErr p (l.drop (k + 1)) := by
 rw [List.drop_eq_getElem_cons hk, evsErr]
theorem vcsErr_drop {p : List Int} {l : List Vc} {k : Nat} (hk : k < l.length) : vcsErr p (l.take k) (l.drop k) = if vcErr p (l.take k) (l[k]'hk) ≠ 0 then vcErr p (l.take k) (l[k]'hk) else vcsErr p (l.take (k + 1)) (l.drop (k + 1)) := by
 rw [List.drop_eq_getElem_cons hk, vcsErr, List.take_append_getElem hk]
def TyB (w : World) (b : Nat) (T : TypeId) : Prop := ∃ cur p, w.heap[b]? = some (Obj.cells cur T p)
theorem TyB.lt {w : World} {b : Nat} {T : TypeId} (h : TyB w b T) : b < w.heap.size := by
 obtain ⟨cur, p, h⟩ := h
 exact (Array.getElem?_eq_some_iff.1 h).1
theorem TyB.one {w : World} {b : Nat} {T T' : TypeId} (h : TyB w b T) (h' : TyB w b T') : T = T' := by
 obtain ⟨cur, p, h⟩ := h
 obtain ⟨cur', p', h'⟩ := h'
 rw [h] at h'
 injection h' with h'
 injection h' with _ h' _
theorem TyB.of_cells {w : World} {b : Nat} {T : TypeId} {xs : List Value} (h : Cells w b T xs) : TyB w b T := ⟨_, _, h⟩
theorem TyB.of_own {w : World} {base size n : Nat} {T : TypeId} {v : Value} {xs : List Value} (h : w.ownsRow base T size v n xs) {g : Nat} (hg : v.ownBlock = some g) : TyB w g T := by
 rcases h.2 with ⟨rfl, _⟩ | ⟨g', cap, cur, rfl, _, h2, _⟩
 ·cases hg
 ·injection hg with hg
  change g' = g at hg
  subst hg
  exact ⟨_, _, h2⟩
theorem TyB.keep {w w' : World} {b : Nat} {T : TypeId} (h : TyB w b T) (e : w'.heap[b]? = w.heap[b]?) : TyB w' b T := by
 obtain ⟨cur, p, h⟩ := h
 exact ⟨cur, p, e.trans h⟩
structure KpT (E : List TypeId) (B : Nat) (w w' : World) : Prop where
 size : w.heap.size ≤ w'.heap.size
 block : ∀ (b : Nat) (T : TypeId), b < B → TyB w b T → T ∉ E → w'.heap[b]? = w.heap[b]?
section
variable {E : List TypeId} {B : Nat} {w w' w'' : World}
theorem KpT.refl (E : List TypeId) (B : Nat) (w : World) : KpT E B w w := ⟨Nat.le_refl _, fun _ _ _ _ _ => rfl⟩
theorem KpT.of_below (h : Below B w w') : KpT E B w w' := ⟨h.size, fun b _ hb _ _ => h.block b hb⟩
theorem KpT.mono {B' : Nat} (h : KpT E B w w') (hB : B' ≤ B) : KpT E B' w w' := ⟨h.size, fun b T hb ht hn => h.block b T (by omega) ht hn⟩
theorem KpT.trans (h : KpT E B w w') (h2 : KpT E B w' w'') : KpT E B w w'' :=
 ⟨Nat.le_trans h.size h2.size, fun b T hb ht hn => (h2.block b T hb (ht.keep (h.block b T hb ht hn)) hn).trans (h.block b T hb ht hn)⟩
theorem KpT.alloc (h : KpT E B w w') (hB : B ≤ w'.heap.size) (o : Obj) : KpT E B w (w'.alloc o) :=
 ⟨by rw [World.size_alloc]; have := h.size; omega, fun b T hb ht hn => (Below.heap_alloc w' o b (by omega)).trans (h.block b T hb ht hn)⟩
theorem KpT.setCell (h : KpT E B w w') {p : Addr} {T : TypeId} (hp : TyB w' p.block T) (hT : T ∈ E) (u : Value) : KpT E B w (w'.setCell p u) :=
 ⟨by have := h.size; simpa [World.setCell] using this, fun b T' hb ht hn => (Below.heap_setCell w' p u b (fun e => by subst e; exact hn ((ht.keep (h.block _ T' hb ht hn)).one hp ▸ hT))).trans (h.block b T' hb ht hn)⟩
theorem KpT.grown (h : KpT E B w w') {base size n : Nat} {T : TypeId} {v : Value} {xs : List Value} (ho : w'.ownsRow base T size v n xs) (hT : T ∈ E) (hg : w'.grownBy w'' v.ownBlock) : KpT E B w w'' :=
 h.trans ⟨hg.size, fun b _ _ ht hn => hg.block b ht.lt fun e => hn (ht.one (TyB.of_own ho e.symm) ▸ hT)⟩
end
def IRow (w : World) (B : Nat) (v : Value) (x : List Int) : Prop := ∃ A c, v = .slice A x.length c ∧ x.length ≤ c ∧ c ≤ maxLen ∧ (0 < x.length → ∃ g o, A = some ⟨g, o, Option.none⟩ ∧ g < B ∧ TyB w g 3 ∧ ∀ k, k < x.length → w.cell? ⟨g, o + k, Option.none⟩ = some (.int .i64 (x[k]?.getD 0)))
section
variable {E : List TypeId} {B B' : Nat} {w w' : World} {v : Value} {x : List Int}
theorem IRow.of_trow (h : TRow w v x) : IRow w w.heap.size v x := by
 obtain ⟨A, c, rfl, h1, h2, h3⟩ := h
 refine ⟨A, c, rfl, h1, h2, fun h0 => ?_⟩
 obtain ⟨g, o, cur, p, rfl, hg, hc⟩ := h3 h0
 exact ⟨g, o, rfl, (Array.getElem?_eq_some_iff.1 hg).1, ⟨cur, p, hg⟩, hc⟩
theorem IRow.trow (h : IRow w B v x) : TRow w v x := by
 obtain ⟨A, c, rfl, h1, h2, h3⟩ := h
 refine ⟨A, c, rfl, h1, h2, fun h0 => ?_⟩
 obtain ⟨g, o, rfl, hg, ⟨cur, p, ht⟩, hc⟩ := h3 h0
 exact ⟨g, o, cur, p, rfl, ht, hc⟩
theorem IRow.row (h : IRow w B v x) : IsRow w w.heap.size v x := h.trow.isRow
theorem IRow.keep (h : IRow w B v x) (hk : KpT E B w w') (hE : 3 ∉ E) (hB : B ≤ B') : IRow w' B' v x := by
 obtain ⟨A, c, rfl, h1, h2, h3⟩ := h
 refine ⟨A, c, rfl, h1, h2, fun h0 => ?_⟩
 obtain ⟨g, o, rfl, hg, ht, hc⟩ := h3 h0
 have e := hk.block g _ hg ht hE
 exact ⟨g, o, rfl, by omega, ht.keep e, fun k hk => (World.cell?_of_block e).trans (hc k hk)⟩
theorem IRow.lift (h : IRow w w.heap.size v x) (hb : Below w.heap.size w w') : IRow w' w'.heap.size v x := h.keep (E := []) (KpT.of_below hb) (by simp) hb.size
theorem IRow.up (h : IRow w B v x) (hB : B ≤ B') : IRow w B' v x := h.keep (E := []) (KpT.refl _ _ _) (by simp) hB
theorem IRow.shape (h : IRow w B v x) : ∃ A c, v = .slice A x.length c ∧ x.length ≤ c ∧ c ≤ maxLen := by
 obtain ⟨A, c, rfl, h1, h2, _⟩ := h
 exact ⟨A, c, rfl, h1, h2⟩
theorem IRow.nil (w : World) (B : Nat) : IRow w B (.slice Option.none 0 0) [] := ⟨Option.none, 0, rfl, Nat.zero_le _, Nat.zero_le _, fun h => absurd h (by simp)⟩
end
structure LT {α : Type} (T : TypeId) (s : Nat) (Q : α → List Value → Prop) (w : World) (B : Nat) (A : Option Addr) (l : List α) : Prop where
 get : ∀ (k : Nat) (x : α), l[k]? = some x → ∃ b o cs, A = some ⟨b, o, Option.none⟩ ∧ b < B ∧ TyB w b T ∧ cs.length = s ∧ (∀ j, j < s → w.cell? ⟨b, o + k * s + j, Option.none⟩ = cs[j]?) ∧ Q x cs
section
variable {α : Type} {T : TypeId} {s : Nat} {Q Q' : α → List Value → Prop} {w w' : World} {B B' : Nat} {A : Option Addr} {l : List α} {E : List TypeId}
theorem LT.nil (w : World) (B : Nat) (A : Option Addr) : LT T s Q w B A [] := ⟨fun k x h => by simp at h⟩
theorem LT.keep (h : LT T s Q w B A l) (hk : KpT E B w w') (hE : T ∉ E) (hB : B ≤ B') (hQ : ∀ x cs, x ∈ l → Q x cs → Q' x cs) : LT T s Q' w' B' A l :=
 ⟨fun k x hx => by
   obtain ⟨b, o, cs, e, h1, h2, h3, h4, h5⟩ := h.get k x hx
   have e2 := hk.block b _ h1 h2 hE
   exact ⟨b, o, cs, e, by omega, h2.keep e2, h3, fun j hj => (World.cell?_of_block e2).trans (h4 j hj), hQ x cs (List.mem_of_getElem? hx) h5⟩⟩
theorem LT.take (h : LT T s Q w B A l) (n : Nat) : LT T s Q w B A (l.take n) := ⟨fun k x hx => h.get k x (by
 rw [List.getElem?_take] at hx
 split at hx
 ·exact hx
 ·cases hx)⟩
end
theorem flat_getS : ∀ (css : List (List Value)) (s k j : Nat) (cs : List Value), (∀ c ∈ css, c.length = s) → css[k]? = some cs → j < s → css.flatten[k * s + j]? = cs[j]?
 | [], s, k, j, cs, _, h, _ => by simp at h
 | c :: css, s, 0, j, cs, hl, h, hj => by
   simp at h
   subst h
   have := hl c (by simp)
   rw [List.flatten_cons, Nat.zero_mul, Nat.zero_add, List.getElem?_append_left (by omega)]
 | c :: css, s, k + 1, j, cs, hl, h, hj => by
   have hc := hl c (by simp)
   rw [List.flatten_cons, List.getElem?_append_right (by rw [hc, Nat.add_mul]; omega), show (k + 1) * s + j - c.length = k * s + j by rw [hc, Nat.add_mul]; omega]
   exact flat_getS css s k j cs (fun c hc => hl c (by simp [hc])) (by simpa using h) hj
theorem flat_lenS : ∀ (css : List (List Value)) (s : Nat), (∀ c ∈ css, c.length = s) → css.flatten.length = css.length * s
 | [], _, _ => by simp
 | c :: css, s, h => by
   rw [List.flatten_cons, List.length_append, flat_lenS css s (fun c hc => h c (by simp [hc])), h c (by simp), List.length_cons, Nat.add_mul]
   omega
structure LO {α : Type} (T : TypeId) (s : Nat) (Q : α → List Value → Prop) (w : World) (base : Nat) (v : Value) (l : List α) (css : List (List Value)) : Prop where
 own : w.ownsRow base T s v l.length css.flatten
 len : css.length = l.length
 lens : ∀ cs ∈ css, cs.length = s
 part : ∀ (k : Nat) (x : α) (cs : List Value), l[k]? = some x → css[k]? = some cs → Q x cs
section
variable {α : Type} {T : TypeId} {s : Nat} {Q Q' : α → List Value → Prop} {w w' : World} {base : Nat} {v v' : Value} {l : List α} {css : List (List Value)}
theorem LO.nil (w : World) (base : Nat) : LO T s Q w base (.slice Option.none 0 0) [] [] := ⟨World.ownsRow_nil _ _ _ _, rfl, fun _ h => by simp at h, fun k x cs h => by simp at h⟩
theorem LO.mono (h : LO T s Q w base v l css) (hQ : ∀ x cs, x ∈ l → Q x cs → Q' x cs) : LO T s Q' w base v l css :=
 ⟨h.own, h.len, h.lens, fun k x cs h1 h2 => hQ x cs (List.mem_of_getElem? h1) (h.part k x cs h1 h2)⟩
theorem LO.below (h : LO T s Q w base v l css) (hb : Below w.heap.size w w') (hQ : ∀ x cs, x ∈ l → Q x cs → Q' x cs) : LO T s Q' w' base v l css :=
 ⟨own_below h.own hb, h.len, h.lens, fun k x cs h1 h2 => hQ x cs (List.mem_of_getElem? h1) (h.part k x cs h1 h2)⟩
theorem LO.kept (h : LO T s Q w base v l css) (hb : ∀ g, v.ownBlock = some g → w'.heap[g]? = w.heap[g]?) (hQ : ∀ x cs, x ∈ l → Q x cs → Q' x cs) : LO T s Q' w' base v l css := by
 refine ⟨⟨h.own.1, ?_⟩, h.len, h.lens, fun k x cs h1 h2 => hQ x cs (List.mem_of_getElem? h1) (h.part k x cs h1 h2)⟩
 rcases h.own.2 with h0 | ⟨g, cap, cur, rfl, b, hg, rest⟩
 ·exact .inl h0
 ·exact .inr ⟨g, cap, cur, rfl, b, (hb g rfl).trans hg, rest⟩
theorem LO.kpt {E : List TypeId} {B : Nat} (h : LO T s Q w base v l css) (hk : KpT E B w w') (hE : T ∉ E) (hB : ∀ g, v.ownBlock = some g → g < B) (hQ : ∀ x cs, x ∈ l → Q x cs → Q' x cs) : LO T s Q' w' base v l css :=
 h.kept (fun g hg => hk.block g _ (hB g hg) (TyB.of_own h.own hg) hE) hQ
theorem LO.lt (h : LO T s Q w base v l css) : ∀ g, v.ownBlock = some g → base ≤ g ∧ g < w.heap.size := h.own.lt
theorem LO.rebase {b : Nat} (h : LO T s Q w base v l css) (hb : b ≤ base) : LO T s Q w b v l css := ⟨own_base h.own hb, h.len, h.lens, h.part⟩
theorem LO.push {x : α} {cs : List Value} (h : LO T s Q w base v l css) (hQ : ∀ x cs, x ∈ l → Q x cs → Q' x cs) (hx : Q' x cs) (hs : cs.length = s) (ho : w'.ownsRow base T s v' (l.length + 1) (css.flatten ++ cs)) : LO T s Q' w' base v' (l ++ [x]) (css ++ [cs]) := by
 refine ⟨?_, by rw [List.length_append, List.length_append, h.len]; rfl, fun c hc => ?_, fun k y d h1 h2 => ?_⟩
 ·rw [List.length_append, List.flatten_append]
  simpa using ho
 ·rcases List.mem_append.1 hc with hc | hc
  ·exact h.lens c hc
  ·simp at hc; rw [hc]; exact hs
 ·by_cases hk : k < l.length
  ·rw [List.getElem?_append_left hk] at h1
   rw [List.getElem?_append_left (by rw [h.len]; exact hk)] at h2
   exact hQ y d (List.mem_of_getElem? h1) (h.part k y d h1 h2)
  ·rw [List.getElem?_append_right (by omega)] at h1
   rw [List.getElem?_append_right (by rw [h.len]; omega), h.len] at h2
   have h0 : k - l.length = 0 := by
    have := (List.getElem?_eq_some_iff.1 h1).1
    simpa using this
   rw [h0] at h1 h2
   simp at h1 h2
   subst h1 h2
   exact hx
theorem LO.shape (h : LO T s Q w base v l css) : ∃ A c, v = .slice A l.length c ∧ l.length ≤ c ∧ c ≤ maxLen ∧ LT T s Q w w.heap.size A l := by
 rcases h.own.2 with ⟨rfl, h0⟩ | ⟨g, cap, cur, rfl, _, hg, hc1, hc2, hc3, hc4⟩
 ·have : l = [] := List.eq_nil_of_length_eq_zero h0
  subst this
  exact ⟨Option.none, 0, rfl, Nat.le_refl _, Nat.zero_le _, LT.nil _ _ _⟩
 ·refine ⟨_, _, rfl, hc1, hc2, ⟨fun k x hx => ?_⟩⟩
  have hk := (List.getElem?_eq_some_iff.1 hx).1
  have hk2 : k < css.length := by rw [h.len]; exact hk
  have hcs := List.getElem?_eq_getElem hk2
  refine ⟨g, 0, css[k], rfl, (Array.getElem?_eq_some_iff.1 hg).1, ⟨_, _, hg⟩, h.lens _ (List.getElem_mem hk2), fun j hj => ?_, h.part k x _ hx hcs⟩
  have hf := flat_getS css s k j css[k] h.lens hcs hj
  have hjl : k * s + j < l.length * s := by
   have := Nat.mul_le_mul_right s hk
   rw [Nat.succ_mul] at this
   omega
  rw [← hf, ← hc4, List.getElem?_take, if_pos hjl, Nat.zero_add]
  unfold World.cell?
  simp only [hg]
  simp
end
end Go.Proofs.YtaaeekahhhookaaGreatDoor
namespace Go.Proofs.YtaaeekahhhookaaGreatDoor
open Go.RowKit Go.Lib
def NoteQ (w : World) (B : Nat) (x : List Int) (cs : List Value) : Prop := ∃ v, cs = [v] ∧ IRow w B v x
abbrev NotesT (w : World) (B : Nat) (A : Option Addr) (l : List (List Int)) : Prop := LT 40 1 (NoteQ w B) w B A l
def EvQ (w : World) (B : Nat) (x : Ev) (cs : List Value) : Prop := ∃ A c, cs = [.string ⟨x.num.toArray⟩, .string ⟨x.den.toArray⟩, .slice A x.notes.length c] ∧ x.notes.length ≤ c ∧ c ≤ maxLen ∧ NotesT w B A x.notes
abbrev EvsT (w : World) (B : Nat) (A : Option Addr) (l : List Ev) : Prop := LT 54 3 (EvQ w B) w B A l
def VcQ (w : World) (B : Nat) (x : Vc) (cs : List Value) : Prop := ∃ A c, cs = [.string ⟨x.name.toArray⟩, .slice A x.evs.length c] ∧ x.evs.length ≤ c ∧ c ≤ maxLen ∧ EvsT w B A x.evs
abbrev VcsT (w : World) (B : Nat) (A : Option Addr) (l : List Vc) : Prop := LT 48 2 (VcQ w B) w B A l
def ScV (w : World) (B : Nat) (pv vv : Value) (s : Sc) : Prop := IRow w B pv s.primes ∧ ∃ A c, vv = .slice A s.voices.length c ∧ s.voices.length ≤ c ∧ c ≤ maxLen ∧ VcsT w B A s.voices
section
variable {E : List TypeId} {B B' : Nat} {w w' : World}
theorem NoteQ.keep (hk : KpT E B w w') (h1 : 3 ∉ E) (hB : B ≤ B') {x : List Int} {cs : List Value} (h : NoteQ w B x cs) : NoteQ w' B' x cs := by
 obtain ⟨v, e, h⟩ := h
 exact ⟨v, e, h.keep hk h1 hB⟩
theorem NotesT.keep (hk : KpT E B w w') (h1 : 3 ∉ E) (h2 : 40 ∉ E) (hB : B ≤ B') {A : Option Addr} {l : List (List Int)} (h : NotesT w B A l) : NotesT w' B' A l :=
 LT.keep h hk h2 hB fun _ _ _ h => h.keep hk h1 hB
theorem EvQ.keep (hk : KpT E B w w') (h1 : 3 ∉ E) (h2 : 40 ∉ E) (hB : B ≤ B') {x : Ev} {cs : List Value} (h : EvQ w B x cs) : EvQ w' B' x cs := by
 obtain ⟨A, c, e, h3, h4, h5⟩ := h
 exact ⟨A, c, e, h3, h4, NotesT.keep hk h1 h2 hB h5⟩
theorem EvsT.keep (hk : KpT E B w w') (h1 : 3 ∉ E) (h2 : 40 ∉ E) (h3 : 54 ∉ E) (hB : B ≤ B') {A : Option Addr} {l : List Ev} (h : EvsT w B A l) : EvsT w' B' A l :=
 LT.keep h hk h3 hB fun _ _ _ h => h.keep hk h1 h2 hB
theorem VcQ.keep (hk : KpT E B w w') (h1 : 3 ∉ E) (h2 : 40 ∉ E) (h3 : 54 ∉ E) (hB : B ≤ B') {x : Vc} {cs : List Value} (h : VcQ w B x cs) : VcQ w' B' x cs := by
 obtain ⟨A, c, e, h4, h5, h6⟩ := h
 exact ⟨A, c, e, h4, h5, EvsT.keep hk h1 h2 h3 hB h6⟩
theorem VcsT.keep (hk : KpT E B w w') (h1 : 3 ∉ E) (h2 : 40 ∉ E) (h3 : 54 ∉ E) (h4 : 48 ∉ E) (hB : B ≤ B') {A : Option Addr} {l : List Vc} (h : VcsT w B A l) : VcsT w' B' A l :=
 LT.keep h hk h4 hB fun _ _ _ h => h.keep hk h1 h2 h3 hB
theorem ScV.keep (hk : KpT E B w w') (h1 : 3 ∉ E) (h2 : 40 ∉ E) (h3 : 54 ∉ E) (h4 : 48 ∉ E) (hB : B ≤ B') {pv vv : Value} {s : Sc} (h : ScV w B pv vv s) : ScV w' B' pv vv s := by
 obtain ⟨hp, A, c, e, h5, h6, h7⟩ := h
 exact ⟨hp.keep hk h1 hB, A, c, e, h5, h6, VcsT.keep hk h1 h2 h3 h4 hB h7⟩
theorem NotesT.lift {A : Option Addr} {l : List (List Int)} (h : NotesT w w.heap.size A l) (hb : Below w.heap.size w w') : NotesT w' w'.heap.size A l := NotesT.keep (E := []) (KpT.of_below hb) (by simp) (by simp) hb.size h
theorem EvQ.lift {x : Ev} {cs : List Value} (h : EvQ w w.heap.size x cs) (hb : Below w.heap.size w w') : EvQ w' w'.heap.size x cs := h.keep (E := []) (KpT.of_below hb) (by simp) (by simp) hb.size
theorem EvsT.lift {A : Option Addr} {l : List Ev} (h : EvsT w w.heap.size A l) (hb : Below w.heap.size w w') : EvsT w' w'.heap.size A l := EvsT.keep (E := []) (KpT.of_below hb) (by simp) (by simp) (by simp) hb.size h
theorem VcsT.lift {A : Option Addr} {l : List Vc} (h : VcsT w w.heap.size A l) (hb : Below w.heap.size w w') : VcsT w' w'.heap.size A l := VcsT.keep (E := []) (KpT.of_below hb) (by simp) (by simp) (by simp) (by simp) hb.size h
theorem ScV.lift {pv vv : Value} {s : Sc} (h : ScV w w.heap.size pv vv s) (hb : Below w.heap.size w w') : ScV w' w'.heap.size pv vv s := h.keep (E := []) (KpT.of_below hb) (by simp) (by simp) (by simp) (by simp) hb.size
theorem NotesT.rows {A : Option Addr} {l : List (List Int)} (h : NotesT w B A l) (hB : B ≤ w.heap.size) : RowsAt w w.heap.size A l :=
 ⟨fun k x hx => by
   obtain ⟨b, o, cs, e, h1, h2, h3, h4, v, rfl, h5⟩ := h.get k x hx
   refine ⟨⟨b, o, Option.none⟩, v, e, by show b < _; omega, ?_, h5.row⟩
   have := h4 0 (by decide)
   rw [Lib.add_plain]
   simpa using this⟩
end
section
variable {w : World} {B : Nat} {A : Option Addr}
theorem NotesT.at_ {l : List (List Int)} (h : NotesT w B A l) {k : Nat} (hk : k < l.length) : ∃ b o v, A = some ⟨b, o, Option.none⟩ ∧ b < B ∧ TyB w b 40 ∧ w.cell? ⟨b, o + k, Option.none⟩ = some v ∧ IRow w B v (l[k]'hk) := by
 obtain ⟨b, o, cs, e, h1, h2, h3, h4, v, rfl, h5⟩ := h.get k _ (List.getElem?_eq_getElem hk)
 have := h4 0 (by decide)
 exact ⟨b, o, v, e, h1, h2, by simpa using this, h5⟩
theorem EvsT.at_ {l : List Ev} (h : EvsT w B A l) {k : Nat} (hk : k < l.length) : ∃ b o A' c', A = some ⟨b, o, Option.none⟩ ∧ b < B ∧ TyB w b 54 ∧ w.cell? ⟨b, o + k * 3, Option.none⟩ = some (.string ⟨(l[k]'hk).num.toArray⟩) ∧ w.cell? ⟨b, o + k * 3 + 1, Option.none⟩ = some (.string ⟨(l[k]'hk).den.toArray⟩) ∧ w.cell? ⟨b, o + k * 3 + 2, Option.none⟩ = some (.slice A' (l[k]'hk).notes.length c') ∧ (l[k]'hk).notes.length ≤ c' ∧ c' ≤ maxLen ∧ NotesT w B A' (l[k]'hk).notes := by
 obtain ⟨b, o, cs, e, h1, h2, h3, h4, A', c', rfl, h5, h6, h7⟩ := h.get k _ (List.getElem?_eq_getElem hk)
 exact ⟨b, o, A', c', e, h1, h2, h4 0 (by decide), h4 1 (by decide), h4 2 (by decide), h5, h6, h7⟩
theorem VcsT.at_ {l : List Vc} (h : VcsT w B A l) {k : Nat} (hk : k < l.length) : ∃ b o A' c', A = some ⟨b, o, Option.none⟩ ∧ b < B ∧ TyB w b 48 ∧ w.cell? ⟨b, o + k * 2, Option.none⟩ = some (.string ⟨(l[k]'hk).name.toArray⟩) ∧ w.cell? ⟨b, o + k * 2 + 1, Option.none⟩ = some (.slice A' (l[k]'hk).evs.length c') ∧ (l[k]'hk).evs.length ≤ c' ∧ c' ≤ maxLen ∧ EvsT w B A' (l[k]'hk).evs := by
 obtain ⟨b, o, cs, e, h1, h2, h3, h4, A', c', rfl, h5, h6, h7⟩ := h.get k _ (List.getElem?_eq_getElem hk)
 exact ⟨b, o, A', c', e, h1, h2, h4 0 (by decide), h4 1 (by decide), h5, h6, h7⟩
end
end Go.Proofs.YtaaeekahhhookaaGreatDoor
namespace Go.Proofs.YtaaeekahhhookaaGreatDoor
open Go.RowKit Go.Lib
def sgnL : List UInt8 := [48, 49, 50, 51, 52, 53, 54, 55, 56, 57, 95, 35, 39]
set_option maxRecDepth 100000 in
theorem sgn_index (c : UInt8) : decide (0 ≤ Lib.indexByte sgnL c) = sgnB c := by
 have h : ∀ m : Fin 256, decide (0 ≤ Lib.indexByte sgnL (UInt8.ofNat m.val)) = sgnB (UInt8.ofNat m.val) := by decide +kernel
 have h2 := h ⟨c.toNat, UInt8.toNat_lt c⟩
 simpa using h2
theorem ltr_cases (c : UInt8) : (ltr c = true ∧ ((97 ≤ c.toNat ∧ c.toNat ≤ 122) ∨ (¬ 97 ≤ c.toNat ∧ 65 ≤ c.toNat ∧ c.toNat ≤ 90))) ∨ (ltr c = false ∧ ((97 ≤ c.toNat ∧ ¬ c.toNat ≤ 122 ∧ 65 ≤ c.toNat ∧ ¬ c.toNat ≤ 90) ∨ (¬ 97 ≤ c.toNat ∧ ((65 ≤ c.toNat ∧ ¬ c.toNat ≤ 90) ∨ ¬ 65 ≤ c.toNat)))) := by
 unfold ltr
 by_cases h1 : 97 ≤ c.toNat <;> by_cases h2 : c.toNat ≤ 122 <;> by_cases h3 : 65 ≤ c.toNat <;> by_cases h4 : c.toNat ≤ 90 <;> simp [h1, h2, h3, h4] <;> omega
set_option maxRecDepth 100000 in
set_option maxHeartbeats 4000000 in
theorem named_any (s : List UInt8) (w : World) (hl : s.length ≤ 1000000) :
  Calls Tryz.prog 44 #[.string ⟨s.toArray⟩] w fun e w' => e = .returned (.bool (nameB s)) ∧ w = w' := by
 have HN : Box (nameB s = (decide (0 < s.length) && (decide (s.length ≤ 32) && nmTo s s.length))) := ⟨nameB_eq s⟩
 have HC := Lib.hid (fun (c : UInt8) W => Tryz.strings_Contains_one ⟨sgnL.toArray⟩ c W)
 have HSG := Lib.hid sgn_index
 generalize nameB s = out at *
 by_cases h0 : s = []
 ·subst h0
  have HE : Box (out = false) := ⟨HN.out⟩
  go_enter Tryz.func44, Tryz.ntmps44
  go_wp2
  go_ret
  exact ⟨ret1 (congrArg Value.bool HE.out.symm), rfl⟩
 have h0' : s.isEmpty = false := by cases s with | nil => exact absurd rfl h0 | cons _ _ => rfl
 have hpos : 0 < s.length := List.length_pos_iff.2 h0
 by_cases h32 : 32 < s.length
 ·have HE : Box (out = false) := ⟨by rw [HN.out, decide_eq_false (show ¬ s.length ≤ 32 by omega)]; simp⟩
  go_enter Tryz.func44, Tryz.ntmps44
  go_wp2
  go_ret
  exact ⟨ret1 (congrArg Value.bool HE.out.symm), rfl⟩
 have HNN : Box (out = nmTo s s.length) := ⟨by rw [HN.out, decide_eq_true hpos, decide_eq_true (show s.length ≤ 32 by omega)]; rfl⟩
 have HSU : Hid (∀ k, nmTo s (k + 1) = (nmTo s k && nmAt s k)) := Lib.hid (nmTo_succ s)
 have HAT : Hid (∀ k, nmAt s k = (ltr (s[k]?.getD 0) || (decide (k ≠ 0) && sgnB (s[k]?.getD 0)))) := Lib.hid (fun k => rfl)
 have HST : Hid (∀ k, k < s.length → nmAt s k = false → nmTo s s.length = false) := Lib.hid (fun k hk hf => by
  cases h : nmTo s s.length with
  | false => rfl
  | true => rw [nmTo_all.1 h k hk] at hf; cases hf)
 clear HN h0
 go_enter Tryz.func44, Tryz.ntmps44
 go_wp2
 go_loop [15] (fun i => ∃ k : Nat, k ≤ s.length ∧ i = .int .i64 k ∧ Box (nmTo s k = true)) (fun i => s.length - (intOf i).toNat)
 case atStart => exact ⟨0, Nat.zero_le _, rfl, ⟨rfl⟩⟩
 case round =>
  obtain ⟨k, hk, rfl, HK⟩ := hrel
  by_cases hlt : k < s.length
  ·have hx := ba_at s k
   have hxe : (⟨s.toArray⟩ : ByteArray).extract k (k + 1) = ⟨#[s[k]?.getD 0]⟩ := ba_ext (by
    rw [ext_eq]
    dsimp only
    rw [List.take_succ_eq_append_getElem hlt, List.drop_append_of_le_length (by rw [List.length_take]; omega), List.drop_of_length_le (by rw [List.length_take]; omega), List.getElem?_eq_getElem hlt]
    rfl)
   have HA := Lib.hid (HAT.out k)
   have HS1 := Lib.hid (HSU.out k)
   have HS2 := Lib.hid (HST.out k hlt)
   have HCK := Lib.hid (HC.out (s[k]?.getD 0))
   have HSGK := Lib.hid (HSG.out (s[k]?.getD 0))
   have hcs := ltr_cases (s[k]?.getD 0)
   have hcl := UInt8.toNat_lt (s[k]?.getD 0)
   generalize s[k]?.getD 0 = c at *
   clear HC HSG HSU HST HAT
   rcases hcs with ⟨hz, hcs⟩ | ⟨hz, hcs⟩
   ·have HNX : Box (nmTo s (k + 1) = true) := ⟨by rw [HS1.out, HK.out, HA.out, hz]; rfl⟩
    clear hz
    rcases hcs with ⟨h1, h2⟩ | ⟨h1, h2, h3⟩
    all_goals
     go_wp2
     go_round
     case rel => exact ⟨k + 1, by omega, by go_num, HNX⟩
     case measure => simp [intOf]; omega
   ·by_cases hk0 : k = 0
    ·subst hk0
     have HE : Box (out = false) := ⟨by rw [HNN.out]; exact HS2.out (by rw [HA.out, hz]; rfl)⟩
     clear hz
     rcases hcs with ⟨h1, h2, h3, h4⟩ | ⟨h1, ⟨h3, h4⟩ | h3⟩
     all_goals
      try have g2 : decide ((c.toNat : Int) ≤ 122) = false := decide_eq_false (by omega)
      try have g4 : decide ((c.toNat : Int) ≤ 90) = false := decide_eq_false (by omega)
      go_wp2
      go_ret
      exact ⟨ret1 (congrArg Value.bool HE.out.symm), rfl⟩
    ·have hk0' : ((k : Int) == 0) = false := by rw [beq_eq_false_iff_ne]; omega
     cases hsg : sgnB c with
     | true =>
       rw [hsg] at HSGK
       have HNX : Box (nmTo s (k + 1) = true) := ⟨by rw [HS1.out, HK.out, HA.out, hz, hsg, decide_eq_true hk0]; rfl⟩
       have HCT : Hid (∀ W, Calls Tryz.prog 92 #[.string ⟨#[48, 49, 50, 51, 52, 53, 54, 55, 56, 57, 95, 35, 39]⟩, .string ⟨#[c]⟩] W fun e w' => e = .returned (.bool true) ∧ w' = W) := Lib.hid (fun W => (HCK.out W).mono fun e w' ⟨he, hw⟩ => ⟨by rw [he]; exact ret1 (congrArg Value.bool HSGK.out), hw⟩)
       clear hz hk0 hsg HCK
       rcases hcs with ⟨h1, h2, h3, h4⟩ | ⟨h1, ⟨h3, h4⟩ | h3⟩
       all_goals
        try have g2 : decide ((c.toNat : Int) ≤ 122) = false := decide_eq_false (by omega)
        try have g4 : decide ((c.toNat : Int) ≤ 90) = false := decide_eq_false (by omega)
        go_wp2_with fail
        refine (HCT.out _).mono ?_
        rintro e w1 ⟨rfl, rfl⟩
        go_wp2
        go_round
        case rel => exact ⟨k + 1, by omega, by go_num, HNX⟩
        case measure => simp [intOf]; omega
     | false =>
       rw [hsg] at HSGK
       have HE : Box (out = false) := ⟨by rw [HNN.out]; exact HS2.out (by rw [HA.out, hz, hsg, Bool.and_false]; rfl)⟩
       have HCT : Hid (∀ W, Calls Tryz.prog 92 #[.string ⟨#[48, 49, 50, 51, 52, 53, 54, 55, 56, 57, 95, 35, 39]⟩, .string ⟨#[c]⟩] W fun e w' => e = .returned (.bool false) ∧ w' = W) := Lib.hid (fun W => (HCK.out W).mono fun e w' ⟨he, hw⟩ => ⟨by rw [he]; exact ret1 (congrArg Value.bool HSGK.out), hw⟩)
       clear hz hk0 hsg HCK
       rcases hcs with ⟨h1, h2, h3, h4⟩ | ⟨h1, ⟨h3, h4⟩ | h3⟩
       all_goals
        try have g2 : decide ((c.toNat : Int) ≤ 122) = false := decide_eq_false (by omega)
        try have g4 : decide ((c.toNat : Int) ≤ 90) = false := decide_eq_false (by omega)
        go_wp2_with fail
        refine (HCT.out _).mono ?_
        rintro e w1 ⟨rfl, rfl⟩
        go_wp2
        go_ret
        exact ⟨ret1 (congrArg Value.bool HE.out.symm), rfl⟩
  ·obtain rfl : k = s.length := by omega
   have HE : Box (out = true) := ⟨by rw [HNN.out, HK.out]⟩
   go_wp2
   go_ret
   exact ⟨ret1 (congrArg Value.bool HE.out.symm), rfl⟩
def idxV (a : List UInt8) : Nat → List Vc → Int
 | _, [] => -1
 | k, v :: r => if v.name == a then k else idxV a (k + 1) r
theorem idxV_any (a : List UInt8) : ∀ (l : List Vc) (k : Nat), decide (0 ≤ idxV a k l) = l.any (fun v => v.name == a)
 | [], k => rfl
 | v :: r, k => by
   rw [idxV, List.any_cons]
   cases h : (v.name == a) with
   | true => rw [if_pos rfl, Bool.true_or, decide_eq_true (by omega)]
   | false => rw [if_neg (by decide), Bool.false_or, idxV_any a r (k + 1)]
set_option maxRecDepth 100000 in
set_option maxHeartbeats 1000000 in
theorem check1_any (nm a : List UInt8) (ev : Value) (g : Nat) (w : World) (hev : ∃ A n c, ev = .slice A n c) (hg : w.cell? ⟨g, 0, Option.none⟩ = some (.string ⟨a.toArray⟩)) :
  Calls Tryz.prog 46 #[.agg #[.string ⟨nm.toArray⟩, ev], .pointer (some ⟨g, 0, Option.none⟩)] w fun e w' => e = .returned (.bool (nm == a)) ∧ Below w.heap.size w w' := by
 obtain ⟨A, n, c, rfl⟩ := hev
 have hb : Below w.heap.size w (w.alloc (.cells #[.string ⟨nm.toArray⟩, .slice A n c] 48)) := (Below.refl _ _).alloc (Nat.le_refl _) _
 have hlt := cell_lt hg
 have hg2 := (hb.cell (p := ⟨g, 0, Option.none⟩) hlt).trans hg
 cases hz : (nm == a) with
 | true =>
   go_enter Tryz.func46, Tryz.ntmps46
   go_wp2_with fail
   go_ret
   exact ⟨rfl, hb⟩
 | false =>
   go_enter Tryz.func46, Tryz.ntmps46
   go_wp2_with fail
   go_ret
   exact ⟨rfl, hb⟩
set_option maxRecDepth 100000 in
set_option maxHeartbeats 2000000 in
theorem indexFunc_vcs (a : List UInt8) (A : Option Addr) (c g : Nat) (l : List Vc) (w : World) (h : VcsT w w.heap.size A l) (hl : l.length ≤ 1000000) (hg : w.cell? ⟨g, 0, Option.none⟩ = some (.string ⟨a.toArray⟩)) :
  Calls Tryz.prog 93 #[.slice A l.length c, .func (.func 46) #[] #[.pointer (some ⟨g, 0, Option.none⟩)]] w fun e w' => e = .returned (.int .i64 (idxV a 0 l)) ∧ Below w.heap.size w w' := by
 have H1 := Lib.hid h
 have hglt := cell_lt hg
 have HG := Lib.hid hg
 clear h hg
 obtain ⟨out, HO⟩ : ∃ out, Box (idxV a 0 (l.drop 0) = out ∧ idxV a 0 l = out) := ⟨_, ⟨rfl, rfl⟩⟩
 rw [HO.out.2]
 go_enter Tryz.func93, Tryz.ntmps93
 go_wp2_with fail
 go_loopw [8] (fun i wr => ∃ k : Nat, k ≤ l.length ∧ i = .int .i64 k ∧ Box (idxV a k (l.drop k) = out) ∧ Below w.heap.size w wr) (fun i _ => l.length - (intOf i).toNat)
 case atStart => exact ⟨0, Nat.zero_le _, rfl, ⟨HO.out.1⟩, Below.refl _ _⟩
 case round =>
  obtain ⟨k, hk, rfl, HK, hbw⟩ := hrel
  by_cases hlt : k < l.length
  ·obtain ⟨b1, o1, A1, C1, rfl, hb1, _, p0, p1, _, _, _⟩ := (H1.out.lift hbw).at_ hlt
   have HS : Box (out = if (l[k]'hlt).name == a then (k : Int) else idxV a (k + 1) (l.drop (k + 1))) := ⟨by rw [← HK.out, List.drop_eq_getElem_cons hlt, idxV]⟩
   generalize l[k]'hlt = t1 at *
   have HE := Lib.hid (check1_any t1.name a (.slice A1 t1.evs.length C1) g wr ⟨_, _, _, rfl⟩ ((hbw.cell (p := ⟨g, 0, Option.none⟩) hglt).trans HG.out))
   generalize (t1.name == a) = tb at *
   cases tb with
   | true =>
     have HF : Box (out = (k : Int)) := ⟨by rw [HS.out]; rfl⟩
     clear HS HK HO
     go_wp2_with fail
     refine HE.out.mono ?_
     rintro e w1 ⟨rfl, hb1⟩
     have hbn := hbw.trans (hb1.mono hbw.size)
     clear hb1
     go_wp2_with fail
     go_ret
     exact ⟨ret_int HF.out.symm, hbn⟩
   | false =>
     have HF : Box (idxV a (k + 1) (l.drop (k + 1)) = out) := ⟨by rw [HS.out]; rfl⟩
     clear HS HK HO
     go_wp2_with fail
     refine HE.out.mono ?_
     rintro e w1 ⟨rfl, hb1⟩
     have hbn := hbw.trans (hb1.mono hbw.size)
     clear hb1
     go_wp2_with fail
     go_roundw
     case rel => exact ⟨k + 1, by omega, by go_num, HF, hbn⟩
     case measure => simp [intOf]; omega
  ·obtain rfl : k = l.length := by omega
   have HF : Box (out = -1) := ⟨by rw [← HK.out, List.drop_length]; rfl⟩
   go_wp2_with fail
   go_ret
   exact ⟨ret_int HF.out.symm, hbw⟩
set_option maxRecDepth 100000 in
set_option maxHeartbeats 1000000 in
theorem containsFunc_vcs (a : List UInt8) (A : Option Addr) (c g : Nat) (l : List Vc) (w : World) (h : VcsT w w.heap.size A l) (hl : l.length ≤ 1000000) (hg : w.cell? ⟨g, 0, Option.none⟩ = some (.string ⟨a.toArray⟩)) :
  Calls Tryz.prog 45 #[.slice A l.length c, .func (.func 46) #[] #[.pointer (some ⟨g, 0, Option.none⟩)]] w fun e w' => e = .returned (.bool (l.any (fun v => v.name == a))) ∧ Below w.heap.size w w' := by
 have HI := Lib.hid (indexFunc_vcs a A c g l w h hl hg)
 have HA : Box (decide (0 ≤ idxV a 0 l) = l.any (fun v => v.name == a)) := ⟨idxV_any a l 0⟩
 generalize idxV a 0 l = ix at *
 generalize l.any (fun v => v.name == a) = out at *
 clear h hg hl
 go_enter Tryz.func45, Tryz.ntmps45
 go_wp2_with fail
 refine HI.out.mono ?_
 rintro e w1 ⟨rfl, hb1⟩
 go_wp2_with fail
 go_ret
 exact ⟨ret1 (congrArg Value.bool HA.out), hb1⟩
structure ScSm (s : Sc) : Prop where
 vcs : s.voices.length ≤ 1000000
 names : ∀ v ∈ s.voices, v.name.length ≤ 1000000
 evs : ∀ v ∈ s.voices, v.evs.length ≤ 1000000
 nums : ∀ v ∈ s.voices, ∀ x ∈ v.evs, x.num.length ≤ 100000 ∧ x.den.length ≤ 100000 ∧ x.notes.length ≤ 1000000
theorem evErr_cases (p : List Int) (x : Ev) : (¬ FracB x.num x.den ∧ evErr p x = 2) ∨ ∃ n d : Int, x.num = itoa n ∧ x.den = itoa d ∧ (decDigits n.natAbs).length ≤ 400 ∧ (decDigits d.natAbs).length ≤ 400 ∧ 0 < d ∧ Nat.gcd n.natAbs d.natAbs = 1 ∧
  ((n ≤ 0 ∧ evErr p x = 3) ∨ (0 < n ∧ ((12 < x.notes.length ∧ evErr p x = 4) ∨ (x.notes.length ≤ 12 ∧ evErr p x = chkAll p x.notes)))) := by
 by_cases hf : FracB x.num x.den
 ·obtain ⟨n, d, h1, h2, h3, h4, h5, h6⟩ := id hf
  refine .inr ⟨n, d, h1, h2, h3, h4, h5, h6, ?_⟩
  by_cases hn : 0 < n
  ·refine .inr ⟨hn, ?_⟩
   by_cases hk : 12 < x.notes.length
   ·exact .inl ⟨hk, by unfold evErr; rw [if_pos hf, if_pos ⟨n, h1, hn⟩, if_pos hk]⟩
   ·exact .inr ⟨by omega, by unfold evErr; rw [if_pos hf, if_pos ⟨n, h1, hn⟩, if_neg hk]⟩
  ·refine .inl ⟨by omega, ?_⟩
   unfold evErr
   rw [if_pos hf, if_neg]
   rintro ⟨m, h7, h8⟩
   have := itoa_inj (h1.symm.trans h7)
   omega
 ·exact .inl ⟨hf, by unfold evErr; rw [if_neg hf]⟩
theorem cel3 {w : World} {g : Nat} {T : TypeId} {a b c : Value} (h : Cells w g T [a, b, c]) : w.cell? ⟨g, 0, Option.none⟩ = some a ∧ w.cell? ⟨g, 1, Option.none⟩ = some b ∧ w.cell? ⟨g, 2, Option.none⟩ = some c := ⟨h.cell 0, h.cell 1, h.cell 2⟩
theorem cel2 {w : World} {g : Nat} {T : TypeId} {a b : Value} (h : Cells w g T [a, b]) : w.cell? ⟨g, 0, Option.none⟩ = some a ∧ w.cell? ⟨g, 1, Option.none⟩ = some b := ⟨h.cell 0, h.cell 1⟩
set_option maxRecDepth 100000 in
set_option maxHeartbeats 8000000 in
theorem scCheck_any (pv vv : Value) (s : Sc) (w : World) (hS : Std w) (h : ScV w w.heap.size pv vv s) (hm : ScSm s) :
  Calls Tryz.prog 18 #[.agg #[pv, vv]] w fun e w' => e = .returned (.int .i64 (scErr s)) ∧ Below w.heap.size w w' := by
 obtain ⟨hp, A, c, rfl, hcl, hcm, hv⟩ := h
 have HS := Lib.hid hS
 have HP := Lib.hid hp
 have HV := Lib.hid hv
 have HM : Box (ScSm s) := ⟨hm⟩
 have HSE : Box (scErr s = if primeErr s.primes ≠ 0 then primeErr s.primes else if 8 < s.voices.length then 4 else vcsErr s.primes [] s.voices) := ⟨rfl⟩
 obtain ⟨p, vs⟩ := s
 dsimp only at *
 obtain ⟨AP, cp, rfl, _⟩ := hp.shape
 have hnl := hm.vcs
 dsimp only at hnl
 have hba : Below w.heap.size w (w.alloc (.cells #[.slice AP p.length cp, .slice A vs.length c] 29)) := (Below.refl _ _).alloc (Nat.le_refl _) _
 have HPC := Lib.hid (primeCheck_any _ p _ _ (HP.out.lift hba).row)
 have HBA := Lib.hid hba
 have HC0 := Lib.hid (Cells.new w 29 #[.slice AP p.length cp, .slice A vs.length c])
 generalize scErr ⟨p, vs⟩ = out at *
 unfold maxLen at hcm
 clear hS hp hv hm hba
 by_cases hpe : primeErr p = 0
 ·rw [hpe] at HPC
  by_cases h8 : 8 < vs.length
  ·have HE : Box (out = 4) := ⟨by rw [HSE.out, if_neg (by simpa using hpe), if_pos h8]⟩
   clear hpe HSE
   go_enter Tryz.func18, Tryz.ntmps18
   go_wp2_with fail
   refine HPC.out.mono ?_
   rintro e w1 ⟨rfl, rfl⟩
   go_wp2_with fail
   go_ret
   exact ⟨ret_int HE.out.symm, HBA.out⟩
  ·have HE : Box (out = vcsErr p (vs.take 0) (vs.drop 0)) := ⟨by rw [HSE.out, if_neg (by simpa using hpe), if_neg h8]; rfl⟩
   clear hpe HSE
   go_enter Tryz.func18, Tryz.ntmps18
   go_wp2_with fail
   refine HPC.out.mono ?_
   rintro e w1 ⟨rfl, rfl⟩
   go_wp2_with fail
   go_loopw [22] (fun i wr => ∃ k : Nat, k ≤ vs.length ∧ i = .int .i64 k ∧ Box (out = vcsErr p (vs.take k) (vs.drop k)) ∧ Cells wr w.heap.size 29 [.slice AP p.length cp, .slice A vs.length c] ∧ Below w.heap.size w wr) (fun i _ => vs.length - (intOf i).toNat)
   case atStart => exact ⟨0, Nat.zero_le _, rfl, HE, HC0.out, HBA.out⟩
   case round =>
    clear HE HPC HC0 HBA
    obtain ⟨k, hk, rfl, HK, hc0, hbw⟩ := hrel
    by_cases hlt : k < vs.length
    ·obtain ⟨b1, o1, A1, C1, rfl, hb1, _, q0, q1, hCl, hCm, hev⟩ := (HV.out.lift hbw).at_ hlt
     have HST : Box (out = if vcErr p (vs.take k) (vs[k]'hlt) ≠ 0 then vcErr p (vs.take k) (vs[k]'hlt) else vcsErr p (vs.take (k + 1)) (vs.drop (k + 1))) := ⟨HK.out.trans (vcsErr_drop hlt)⟩
     have hnm := HM.out.names _ (List.getElem_mem hlt)
     have hne := HM.out.evs _ (List.getElem_mem hlt)
     have HNU : Box (∀ x ∈ (vs[k]'hlt).evs, x.num.length ≤ 100000 ∧ x.den.length ≤ 100000 ∧ x.notes.length ≤ 1000000) := ⟨HM.out.nums _ (List.getElem_mem hlt)⟩
     generalize vs[k]'hlt = v at *
     obtain ⟨nm, es⟩ := v
     dsimp only at *
     have HVC : Box (vcErr p (vs.take k) ⟨nm, es⟩ = if nameB nm then (if (vs.take k).any (fun w => w.name == nm) then 9 else if 500 < es.length then 4 else evsErr p es) else 8) := ⟨rfl⟩
     generalize vcErr p (vs.take k) ⟨nm, es⟩ = ve at *
     have hba : Below wr.heap.size wr (wr.alloc (.cells #[.string ⟨nm.toArray⟩, .slice A1 es.length C1] 48)) := (Below.refl _ _).alloc (Nat.le_refl _) _
     have HN := Lib.hid (Cells.new wr 48 #[.string ⟨nm.toArray⟩, .slice A1 es.length C1])
     have HC1 := Lib.hid (hc0.below hba hc0.lt)
     have HEV := Lib.hid (hev.lift hba)
     have HBW := Lib.hid (hbw.trans (hba.mono hbw.size))
     obtain ⟨z0, z1⟩ := cel2 HC1.out
     obtain ⟨y0, y1⟩ := cel2 HN.out
     unfold maxLen at hCm
     have hNA := Lib.hid (fun W => named_any nm W hnm)
     clear hc0 hev hba HK
     cases hnb : nameB nm with
     | false =>
       rw [hnb] at hNA HVC
       have HE : Box (out = 8) := ⟨by rw [HST.out, HVC.out]; rfl⟩
       clear HST HVC hnb
       go_wp2_with fail
       refine (hNA.out _).mono ?_
       rintro e w2 ⟨rfl, rfl⟩
       go_wp2_with fail
       go_ret
       exact ⟨ret_int HE.out.symm, HBW.out⟩
     | true =>
       rw [hnb] at hNA HVC
       have HVT : Hid (VcsT (wr.alloc (.cells #[.string ⟨nm.toArray⟩, .slice A1 es.length C1] 48)) (wr.alloc (.cells #[.string ⟨nm.toArray⟩, .slice A1 es.length C1] 48)).heap.size (some ⟨b1, o1, Option.none⟩) (vs.take k)) := Lib.hid ((HV.out.lift HBW.out).take k)
       have HCF := Lib.hid (containsFunc_vcs nm (some ⟨b1, o1, Option.none⟩) c wr.heap.size (vs.take k) _ HVT.out (by rw [List.length_take]; omega) y0)
       have htl : (vs.take k).length = k := by rw [List.length_take]; omega
       rw [htl] at HCF
       clear htl hnb HVT
       cases hdu : (vs.take k).any (fun w => w.name == nm) with
       | true =>
         rw [hdu] at HCF HVC
         have HE : Box (out = 9) := ⟨by rw [HST.out, HVC.out]; rfl⟩
         clear HST HVC hdu
         go_wp2_with fail
         refine (hNA.out _).mono ?_
         rintro e w2 ⟨rfl, rfl⟩
         go_wp2_with fail
         refine HCF.out.mono ?_
         rintro e w3 ⟨rfl, hb3⟩
         have HB3 := Lib.hid (HBW.out.trans (hb3.mono HBW.out.size))
         clear hb3
         go_wp2_with fail
         go_ret
         exact ⟨ret_int HE.out.symm, HB3.out⟩
       | false =>
         rw [hdu] at HCF HVC
         clear hdu
         go_wp2_with fail
         refine (hNA.out _).mono ?_
         rintro e w2 ⟨rfl, rfl⟩
         go_wp2_with fail
         refine HCF.out.mono ?_
         rintro e w3 ⟨rfl, hb3⟩
         have HB3 := Lib.hid (HBW.out.trans (hb3.mono HBW.out.size))
         have HC3 := Lib.hid (HC1.out.below hb3 HC1.out.lt)
         have HN3 := Lib.hid (HN.out.below hb3 HN.out.lt)
         have HEV3 := Lib.hid (HEV.out.lift hb3)
         clear hb3 z0 z1 y0 y1 HC1 HN HEV HBW HCF hNA q0 q1 hbw
         obtain ⟨y0, y1⟩ := cel2 HN3.out
         by_cases h5 : 500 < es.length
         ·have HE : Box (out = 4) := ⟨by rw [HST.out, HVC.out]; simp [h5]⟩
          clear HST HVC
          go_wp2_with fail
          go_ret
          exact ⟨ret_int HE.out.symm, HB3.out⟩
         ·have HVE : Box (ve = evsErr p (es.drop 0)) := ⟨by rw [HVC.out]; simp [h5]⟩
          clear HVC
          generalize hgb : wr.heap.size = g5 at *
          clear hgb
          go_wp2_with fail
          go_loopw [47] (fun i wx => ∃ j : Nat, j ≤ es.length ∧ i = .int .i64 j ∧ Box (ve = evsErr p (es.drop j)) ∧ Cells wx w.heap.size 29 [.slice AP p.length cp, .slice (some ⟨b1, o1, Option.none⟩) vs.length c] ∧ Below w3.heap.size w3 wx) (fun i _ => es.length - (intOf i).toNat)
          case atStart => exact ⟨0, Nat.zero_le _, rfl, HVE, HC3.out, Below.refl _ _⟩
          case round =>
           obtain ⟨j, hj, rfl, HJ, hcx, hbx⟩ := hrel
           by_cases hjl : j < es.length
           ·obtain ⟨b2, o2, A2, C2, rfl, hb2, _, r0, r1, r2, hDl, hDm, hno⟩ := (HEV3.out.lift hbx).at_ hjl
            have HJS : Box (ve = if evErr p (es[j]'hjl) ≠ 0 then evErr p (es[j]'hjl) else evsErr p (es.drop (j + 1))) := ⟨HJ.out.trans (evsErr_drop hjl)⟩
            obtain ⟨hn1, hn2, hn3⟩ := HNU.out _ (List.getElem_mem hjl)
            have hcs := evErr_cases p (es[j]'hjl)
            generalize es[j]'hjl = x at *
            obtain ⟨nu, de, no⟩ := x
            dsimp only at *
            generalize evErr p ⟨nu, de, no⟩ = ee at *
            have hbe : Below wr.heap.size wr (wr.alloc (.cells #[.string ⟨nu.toArray⟩, .string ⟨de.toArray⟩, .slice A2 no.length C2] 54)) := (Below.refl _ _).alloc (Nat.le_refl _) _
            have HX := Lib.hid (Cells.new wr 54 #[.string ⟨nu.toArray⟩, .string ⟨de.toArray⟩, .slice A2 no.length C2])
            have HCX := Lib.hid (hcx.below hbe hcx.lt)
            have HNO := Lib.hid (hno.lift hbe)
            have HBX := Lib.hid (HB3.out.trans ((hbx.trans (hbe.mono hbx.size)).mono HB3.out.size))
            have HBX3 := Lib.hid (hbx.trans (hbe.mono hbx.size))
            have HSX := Lib.hid (HS.out.below HBX.out (Nat.le_refl _))
            obtain ⟨x0, x1, x2⟩ := cel3 HX.out
            unfold maxLen at hDm
            clear hcx hno hbe hbx HJ
            rcases hcs with ⟨hf, rfl⟩ | ⟨n, d, rfl, rfl, hl1, hl2, hd0, hg1, hcs⟩
            ·have HE : Box (out = 2) := ⟨by rw [HST.out, HJS.out]; rfl⟩
             have HF := Lib.hid (fracCheck_no nu de _ HSX.out hn1 hn2 hf)
             clear HST HJS hf
             go_wp2_with fail
             refine HF.out.mono ?_
             rintro e w4 ⟨rfl, hb4⟩
             have HB4 := Lib.hid (HBX.out.trans (hb4.mono HBX.out.size))
             clear hb4
             go_wp2_with fail
             go_ret
             exact ⟨ret_int HE.out.symm, HB4.out⟩
            ·have HF := Lib.hid (fracCheck_long n d _ HSX.out hl1 hl2 hd0 hg1)
             have HSG := Lib.hid (fun W => fracSign_any n (itoa d) W hn1)
             have hsg : (n ≤ 0 ∧ sgn n ≤ 0) ∨ (0 < n ∧ sgn n = 1) := by unfold sgn; split; omega; split <;> omega
             generalize itoa n = ln at *
             generalize itoa d = ld at *
             clear hl1 hl2 hd0 hg1
             rcases hcs with ⟨hn0, rfl⟩ | ⟨hn0, hcs⟩
             ·have HE : Box (out = 3) := ⟨by rw [HST.out, HJS.out]; rfl⟩
              have hs0 : sgn n ≤ 0 := by omega
              generalize sgn n = sg at *
              clear HST HJS hsg hn0
              go_wp2_with fail
              refine HF.out.mono ?_
              rintro e w4 ⟨rfl, hb4⟩
              have HB4 := Lib.hid (HBX.out.trans (hb4.mono HBX.out.size))
              obtain ⟨x0, x1, x2⟩ := cel3 (HX.out.below hb4 HX.out.lt)
              clear hb4
              go_wp2_with fail
              refine (HSG.out _).mono ?_
              rintro e w5 ⟨rfl, hb5⟩
              have HB5 := Lib.hid (HB4.out.trans (hb5.mono HB4.out.size))
              clear hb5
              go_wp2_with fail
              go_ret
              exact ⟨ret_int HE.out.symm, HB5.out⟩
             ·have hs1 : sgn n = 1 := by omega
              rw [hs1] at HSG
              clear hsg hs1
              go_wp2_with fail
              refine HF.out.mono ?_
              rintro e w4 ⟨rfl, hb4⟩
              have HB4 := Lib.hid (HBX.out.trans (hb4.mono HBX.out.size))
              have HB43 := Lib.hid (HBX3.out.trans (hb4.mono HBX3.out.size))
              have HX4 := Lib.hid (HX.out.below hb4 HX.out.lt)
              have HCX4 := Lib.hid (HCX.out.below hb4 HCX.out.lt)
              have HNO4 := Lib.hid (HNO.out.lift hb4)
              obtain ⟨x0, x1, x2⟩ := cel3 HX4.out
              clear hb4
              go_wp2_with fail
              refine (HSG.out _).mono ?_
              rintro e w5 ⟨rfl, hb5⟩
              have HB5 := Lib.hid (HB4.out.trans (hb5.mono HB4.out.size))
              have HB53 := Lib.hid (HB43.out.trans (hb5.mono HB43.out.size))
              have HX5 := Lib.hid (HX4.out.below hb5 HX4.out.lt)
              have HCX5 := Lib.hid (HCX4.out.below hb5 HCX4.out.lt)
              have HNO5 := Lib.hid (HNO4.out.lift hb5)
              obtain ⟨x0, x1, x2⟩ := cel3 HX5.out
              obtain ⟨z0, z1⟩ := cel2 HCX5.out
              clear hb5
              rcases hcs with ⟨h12, rfl⟩ | ⟨h12, rfl⟩
              ·have HE : Box (out = 4) := ⟨by rw [HST.out, HJS.out]; rfl⟩
               clear HST HJS
               go_wp2_with fail
               go_ret
               exact ⟨ret_int HE.out.symm, HB5.out⟩
              ·have HCA := Lib.hid (checkAll_any _ p A2 C2 _ no w5 (HP.out.lift HB5.out).row (HNO5.out.rows (Nat.le_refl _)) (by omega))
               have hn12 : ¬ 12 < no.length := by omega
               by_cases hce : chkAll p no = 0
               ·rw [hce] at HCA
                have HNX : Box (ve = evsErr p (es.drop (j + 1))) := ⟨by rw [HJS.out, hce]; rfl⟩
                clear HJS hce HST
                go_wp2_with fail
                refine HCA.out.mono ?_
                rintro e w6 ⟨rfl, rfl⟩
                go_wp2_with fail
                go_roundw
                case rel => exact ⟨j + 1, by omega, by go_num, HNX, HCX5.out, HB53.out⟩
                case measure => simp [intOf]; omega
               ·have HE : Box (out = chkAll p no) := ⟨by rw [HST.out, HJS.out, if_pos hce, if_pos hce]⟩
                have hcb : (chkAll p no != 0) = true := by rw [bne_iff_ne]; exact hce
                generalize chkAll p no = q at *
                clear HST HJS hce
                go_wp2_with fail
                refine HCA.out.mono ?_
                rintro e w6 ⟨rfl, rfl⟩
                go_wp2_with fail
                go_ret
                exact ⟨ret_int HE.out.symm, HB5.out⟩
           ·obtain rfl : j = es.length := by omega
            have HNX : Box (out = vcsErr p (vs.take (k + 1)) (vs.drop (k + 1))) := ⟨by
             have : ve = 0 := by rw [HJ.out, List.drop_length]; rfl
             rw [HST.out, this]; rfl⟩
            clear HST HJ
            have HBN := Lib.hid (HB3.out.trans (hbx.mono HB3.out.size))
            go_wp2_with fail
            go_roundw
            case rel => exact ⟨k + 1, by omega, by go_num, HNX, hcx, HBN.out⟩
            case measure => simp [intOf]; omega
    ·obtain rfl : k = vs.length := by omega
     have HE : Box (out = 0) := ⟨by rw [HK.out, List.drop_length]; rfl⟩
     go_wp2_with fail
     go_ret
     exact ⟨ret_int HE.out.symm, hbw⟩
 ·have HE : Box (out = primeErr p) := ⟨by rw [HSE.out, if_pos hpe]⟩
  have hpb : (primeErr p != 0) = true := by rw [bne_iff_ne]; exact hpe
  generalize primeErr p = q at *
  clear hpe HSE
  go_enter Tryz.func18, Tryz.ntmps18
  go_wp2_with fail
  refine HPC.out.mono ?_
  rintro e w1 ⟨rfl, rfl⟩
  go_wp2_with fail
  go_ret
  exact ⟨ret_int HE.out.symm, HBA.out⟩
end Go.Proofs.YtaaeekahhhookaaGreatDoor
