import Derived.Test.YtaaeekahhhookaaGreatDoorGXAMCk
import Derived.Test.YtaaeekahhhookaaGreatDoorGTHMCk
import Derived.Test.YtaaeekahhhookaaGreatDoorGOMCk
import Derived.Test.YtaaeekahhhookaaGreatDoorGXGCk
import Derived.Test.YtaaeekahhhookaaGreatDoorGQCk
import Derived.Test.YtaaeekahhhookaaGreatDoorGXHCk
import Derived.Test.YtaaeekahhhookaaGreatDoorGTEMCk
import Derived.Test.YtaaeekahhhookaaGreatDoorGTCMCk
import Derived.Test.YtaaeekahhhookaaGreatDoorGXDMCk
namespace Go.Proofs.YtaaeekahhhookaaGreatDoor
open Go.RowKit Go.Lib
def ketT (x : List Int) : List UInt8 := 91 :: rowTxt x ++ [62]
def lnT (ws : List (List UInt8)) : List UInt8 := Lib.join ws [32] ++ [10]
def lnsT (ls : List (List (List UInt8))) : List UInt8 := (ls.map lnT).flatten
def lnsN (ls : List (List (List UInt8))) : Nat := (ls.map fun ws => ws.length + 1).sum
theorem lnsT_append (a b : List (List (List UInt8))) : lnsT (a ++ b) = lnsT a ++ lnsT b := by unfold lnsT; rw [List.map_append, List.flatten_append]
theorem lnsN_append (a b : List (List (List UInt8))) : lnsN (a ++ b) = lnsN a + lnsN b := by unfold lnsN; rw [List.map_append, List.sum_append]
theorem lnsT_one (ws : List (List UInt8)) : lnsT [ws] = lnT ws := by unfold lnsT; simp
theorem lnsN_one (ws : List (List UInt8)) : lnsN [ws] = ws.length + 1 := by unfold lnsN; simp
theorem lnT_len (ws : List (List UInt8)) : (lnT ws).length = (Lib.join ws [32]).length + 1 := by unfold lnT; simp
def evW (x : Ev) : List (List UInt8) := ratText x.num x.den :: [58] :: x.notes.map ketT
def vcHd (v : Vc) : List (List UInt8) := [[118, 111, 105, 99, 101], v.name]
def vcL (v : Vc) : List (List (List UInt8)) := vcHd v :: v.evs.map evW
def prW (p : List Int) : List (List UInt8) := [112, 114, 105, 109, 101, 115] :: p.map itoa
def scTo (s : Sc) (k : Nat) : List (List (List UInt8)) := prW s.primes :: ((s.voices.take k).map vcL).flatten
def scL (s : Sc) : List (List (List UInt8)) := prW s.primes :: (s.voices.map vcL).flatten
theorem scTo_all (s : Sc) : scTo s s.voices.length = scL s := by unfold scTo scL; rw [List.take_length]
theorem scTo_zero (s : Sc) : scTo s 0 = [prW s.primes] := rfl
theorem scTo_next {s : Sc} {k : Nat} (hk : k < s.voices.length) : scTo s (k + 1) = scTo s k ++ vcL (s.voices[k]'hk) := by
 unfold scTo
 rw [List.take_succ_eq_append_getElem hk, List.map_append, List.flatten_append, List.cons_append]
 simp
def vcTo (v : Vc) (j : Nat) : List (List (List UInt8)) := vcHd v :: (v.evs.take j).map evW
theorem vcTo_all (v : Vc) : vcTo v v.evs.length = vcL v := by unfold vcTo vcL; rw [List.take_length]
theorem vcTo_next {v : Vc} {j : Nat} (hj : j < v.evs.length) : vcTo v (j + 1) = vcTo v j ++ [evW (v.evs[j]'hj)] := by
 unfold vcTo
 rw [List.take_succ_eq_append_getElem hj, List.map_append, List.cons_append]
 rfl
theorem lnsT_mem {ls : List (List (List UInt8))} {ws : List (List UInt8)} (h : ws ∈ ls) : (Lib.join ws [32]).length + 1 ≤ (lnsT ls).length := by
 induction ls with
 | nil => simp at h
 | cons a r ih =>
   have e : lnsT (a :: r) = lnT a ++ lnsT r := rfl
   rw [e, List.length_append]
   rcases List.mem_cons.1 h with rfl | h
   ·rw [lnT_len]; omega
   ·have := ih h; omega
theorem scTo_le (s : Sc) (k : Nat) : (lnsT (scTo s k)).length ≤ (lnsT (scL s)).length ∧ lnsN (scTo s k) ≤ lnsN (scL s) := by
 have e : scL s = scTo s k ++ ((s.voices.drop k).map vcL).flatten := by
  unfold scL scTo
  rw [List.cons_append, ← List.flatten_append, ← List.map_append, List.take_append_drop]
 rw [e, lnsT_append, lnsN_append, List.length_append]
 exact ⟨by omega, by omega⟩
theorem vcTo_le (v : Vc) (j : Nat) : (lnsT (vcTo v j)).length ≤ (lnsT (vcL v)).length ∧ lnsN (vcTo v j) ≤ lnsN (vcL v) := by
 have e : vcL v = vcTo v j ++ (v.evs.drop j).map evW := by
  unfold vcL vcTo
  rw [List.cons_append, ← List.map_append, List.take_append_drop]
 rw [e, lnsT_append, lnsN_append, List.length_append]
 exact ⟨by omega, by omega⟩
def prOut (s : Sc) : Value := if 4000 < lnsN (scL s) then .tuple #[.string ⟨#[]⟩, .int .i64 4] else if 65536 < (lnsT (scL s)).length then .tuple #[.string ⟨#[]⟩, .int .i64 16] else .tuple #[.string ⟨(lnsT (scL s)).toArray⟩, .int .i64 0]
theorem pErr_prime : ∀ (p : List Int) (m : Option Int), pErr m p = 0 → ∀ n ∈ p, primeB n = true
 | [], _, _, n, hn => by simp at hn
 | v :: r, m, h, n, hn => by
   rw [pErr] at h
   split at h
   ·cases h
   ·rename_i hv
    split at h
    ·cases h
    ·rcases List.mem_cons.1 hn with rfl | hn
     ·simpa using hv
     ·exact pErr_prime r _ h n hn
theorem primeErr_six {p : List Int} (h : primeErr p = 0) : p.length ≤ 6 := by
 unfold primeErr at h
 split at h
 ·omega
 ·split at h
  ·omega
  ·omega
theorem primeErr_mem {p : List Int} (h : primeErr p = 0) {n : Int} (hn : n ∈ p) : 2 ≤ n ∧ n ≤ 97 := by
 unfold primeErr at h
 split at h
 ·omega
 ·split at h
  ·omega
  ·have h1 := pErr_prime p _ h n hn
   unfold primeB at h1
   simp at h1
   exact ⟨h1.1.1, h1.1.2⟩
structure ScOk (s : Sc) : Prop where
 prm : primeErr s.primes = 0
 vcs : s.voices.length ≤ 8
 name : ∀ v ∈ s.voices, nameB v.name = true
 evs : ∀ v ∈ s.voices, v.evs.length ≤ 500
 ev : ∀ v ∈ s.voices, ∀ x ∈ v.evs, FracB x.num x.den ∧ x.notes.length ≤ 12 ∧ ∀ y ∈ x.notes, chkAll s.primes [y] = 0
theorem rowsErr_mem {n : Nat} : ∀ {l : List (List Int)}, rowsErr n l = 0 → ∀ x ∈ l, rowErr n x = 0
 | [], _, x, hx => by simp at hx
 | y :: r, h, x, hx => by
   rw [rowsErr] at h
   split at h
   ·omega
   ·rename_i h1
    rcases List.mem_cons.1 hx with rfl | hx
    ·simpa using h1
    ·exact rowsErr_mem h x hx
theorem chkAll_mem {p : List Int} {l : List (List Int)} (h : chkAll p l = 0) {x : List Int} (hx : x ∈ l) : chkAll p [x] = 0 := by
 unfold chkAll at *
 split at h
 ·omega
 ·rename_i hp
  rw [if_neg hp, rowsErr, if_neg (by rw [rowsErr_mem h x hx]; simp)]
  rfl
theorem evsErr_mem {p : List Int} : ∀ {l : List Ev}, evsErr p l = 0 → ∀ x ∈ l, evErr p x = 0
 | [], _, x, hx => by simp at hx
 | y :: r, h, x, hx => by
   rw [evsErr] at h
   split at h
   ·omega
   ·rename_i h1
    rcases List.mem_cons.1 hx with rfl | hx
    ·simpa using h1
    ·exact evsErr_mem h x hx
theorem vcsErr_mem {p : List Int} : ∀ {r l : List Vc}, vcsErr p l r = 0 → ∀ v ∈ r, nameB v.name = true ∧ v.evs.length ≤ 500 ∧ evsErr p v.evs = 0
 | [], _, _, v, hv => by simp at hv
 | u :: r, l, h, v, hv => by
   rw [vcsErr] at h
   split at h
   ·omega
   ·rename_i h1
    rcases List.mem_cons.1 hv with rfl | hv
    ·have h2 : vcErr p l v = 0 := by simpa using h1
     unfold vcErr at h2
     split at h2
     ·rename_i h3
      split at h2
      ·cases h2
      ·split at h2
       ·cases h2
       ·exact ⟨h3, by omega, h2⟩
     ·cases h2
    ·exact vcsErr_mem h v hv
theorem ScOk.of {s : Sc} (h : scErr s = 0) : ScOk s := by
 unfold scErr at h
 split at h
 ·omega
 ·rename_i h0
  split at h
  ·cases h
  ·have hm := vcsErr_mem h
   refine ⟨by simpa using h0, by omega, fun v hv => (hm v hv).1, fun v hv => (hm v hv).2.1, fun v hv x hx => ?_⟩
   have h1 := evsErr_mem (hm v hv).2.2 x hx
   unfold evErr at h1
   split at h1
   ·rename_i hf
    split at h1
    ·split at h1
     ·cases h1
     ·exact ⟨hf, by omega, fun y hy => chkAll_mem h1 hy⟩
    ·cases h1
   ·cases h1
theorem builder_keep {T e : TypeId} {B b : Nat} {bs : List Value} {w w' : World} (h : Lib.IsBuilder T e B b bs w) (hg : w'.heap[b]? = w.heap[b]?) (hk : ∀ k, TyB w k e → w'.heap[k]? = w.heap[k]?) : Lib.IsBuilder T e B b bs w' := by
 have key : ∀ p, Lib.BuilderAt T e B b p bs w → Lib.BuilderAt T e B b p bs w' := fun p ⟨hB, v, hbk, hown, hne⟩ =>
  ⟨hB, v, hg.trans hbk, own_keep hown fun k hkk => hk k (TyB.of_own hown hkk), hne⟩
 exact h.elim (fun x => .inl (key _ x)) (fun x => .inr (key _ x))
theorem builder_ty {T e : TypeId} {B b : Nat} {bs : List Value} {w : World} (h : Lib.IsBuilder T e B b bs w) : B ≤ b ∧ TyB w b T := by
 rcases h with ⟨h0, v, h1, _⟩ | ⟨h0, v, h1, _⟩
 ·exact ⟨h0, _, _, h1⟩
 ·exact ⟨h0, _, _, h1⟩
theorem KpT.of_keepB {w w' : World} {B : Nat} (h : KeepB w w') (hs : w.heap.size ≤ w'.heap.size) : KpT [5, 128] B w w' :=
 ⟨hs, fun b T _ ⟨cur, p, ht⟩ hn => by
   simp at hn
   exact (h b cur T p ht hn.1 hn.2).trans ht.symm⟩
theorem KpT.more {E E' : List TypeId} {B : Nat} {w w' : World} (h : KpT E B w w') (hE : ∀ T ∈ E, T ∈ E') : KpT E' B w w' := ⟨h.size, fun b T hb ht hn => h.block b T hb ht fun hm => hn (hE T hm)⟩
theorem byteCells_snoc (a c : List UInt8) : Lib.byteCells (a ++ c) = Lib.byteCells a ++ Lib.strCells ⟨c.toArray⟩ := by rw [Lib.strCells_toArray]; simp [Lib.byteCells]
set_option maxRecDepth 100000 in
set_option maxHeartbeats 2000000 in
theorem prLine_any (B g q base n : Nat) (l : List UInt8) (v : Value) (ws : List (List UInt8)) (w : World) (hb : Lib.IsBuilder 128 5 B g (Lib.byteCells l) w) (hq : Cells w q 3 [.int .i64 n]) (hv : w.ownsRow base 9 1 v ws.length (strs ws)) (hj : (Lib.join ws [32]).length ≤ 1000000) (hn : ws.length ≤ 1000000) (hl : l.length ≤ 1000000) (hm : n ≤ 1000000) (hBw : B ≤ w.heap.size) (hBq : B ≤ q) :
  Calls Tryz.prog 56 #[v, .pointer (some ⟨g, 0, Option.none⟩), .pointer (some ⟨q, 0, Option.none⟩)] w fun e w' => e = .returned (.tuple #[]) ∧ Lib.IsBuilder 128 5 B g (Lib.byteCells (l ++ lnT ws)) w' ∧ Cells w' q 3 [.int .i64 ((n + (ws.length + 1) : Nat) : Int)] ∧ Below B w w' ∧ KpT [5, 128, 3] w.heap.size w w' := by
 have HJ := Lib.hid (join_own base v ws [32] w hv hj hn)
 obtain ⟨A7, c7, rfl, _, hm7, _⟩ := Row.of_own hv
 have HB := Lib.hid hb
 have HQ := Lib.hid hq
 have HT : Box (lnT ws = Lib.join ws [32] ++ [10]) := ⟨rfl⟩
 have hjl : ¬ 9223372036854775807 < (Lib.join ws [32]).length + 1 := by omega
 generalize lnT ws = lt at *
 generalize Lib.join ws [32] = jt at *
 clear hb hq hv
 go_enter Tryz.func56, Tryz.ntmps56
 go_wp2_with fail
 refine HJ.out.mono ?_
 rintro e w1 ⟨rfl, hb1⟩
 have hw1 := hb1.size
 have HB1 := Lib.hid (builder_below HB.out hb1)
 have HQ1 := Lib.hid (HQ.out.below hb1 HQ.out.lt)
 have HBW := Lib.hid hb1
 clear hb1 HB HQ HJ
 go_wp2_with fail
 rw [show ((⟨jt.toArray⟩ : ByteArray) ++ ⟨#[10]⟩) = ⟨lt.toArray⟩ by rw [HT.out]; exact ba_append jt [10]]
 have hll : lt.length = jt.length + 1 := by rw [HT.out]; simp
 refine (writeString_any B g _ ⟨lt.toArray⟩ w1 HB1.out (by rw [byteCells_len]; show _ + lt.toArray.size ≤ _; rw [List.size_toArray]; omega) (by omega)).mono ?_
 rintro e w6 ⟨rfl, hbd, hb6, hkp⟩
 have hw6 : w1.heap.size ≤ w6.heap.size := by
  obtain ⟨_, v', hbk, _⟩ := hbd
  exact hb6.size
 have hk6 : KpT [5, 128] w1.heap.size w1 w6 := KpT.of_keepB hkp hw6
 have hq6 : Cells w6 q 3 [.int .i64 n] := (hk6.block q _ HQ1.out.lt (TyB.of_cells HQ1.out) (by decide)).trans HQ1.out
 have HB6 : Hid (Lib.IsBuilder 128 5 B g (Lib.byteCells (l ++ lt)) w6) := Lib.hid (by rw [byteCells_snoc]; exact .inr hbd)
 have HQ6 := Lib.hid hq6
 have HK6 := Lib.hid ((KpT.of_below (E := [5, 128]) HBW.out).trans (hk6.mono hw1))
 have HL6 := Lib.hid ((HBW.out.mono hBw).trans hb6)
 have q0 := hq6.cell 0
 have q1 := hq6.free 0
 simp only [List.getElem?_cons_zero] at q0
 have hv1 : IntKind.i64.wrap ((ws.length : Int) + 1) = (ws.length : Int) + 1 := IntWalk.i64_in _ (by omega)
 have hv2 : IntKind.i64.wrap ((n : Int) + ((ws.length : Int) + 1)) = (n : Int) + ((ws.length : Int) + 1) := IntWalk.i64_in _ (by omega)
 clear hbd hb6 hkp hk6 hq6 HB1 HQ1 HBW hll
 go_wp2_with fail
 go_end0
 have hset := HQ6.out.set 0 (.int .i64 ((n : Int) + ((ws.length : Int) + 1)))
 have hty := TyB.of_cells HQ6.out
 refine ⟨rfl, builder_keep HB6.out ?_ (fun k ht => ?_), ?_, HL6.out.setCell (p := ⟨q, 0, Option.none⟩) hBq _, ?_⟩
 ·exact Below.heap_setCell _ _ _ _ (fun e => absurd ((builder_ty HB6.out).2.one (show TyB w6 g 3 by rw [show g = q from e]; exact hty)) (by decide))
 ·exact Below.heap_setCell _ _ _ _ (fun e => absurd (ht.one (show TyB w6 k 3 by rw [show k = q from e]; exact hty)) (by decide))
 ·have e : (((n + (ws.length + 1) : Nat)) : Int) = (n : Int) + ((ws.length : Int) + 1) := by omega
  rw [e]
  exact hset
 ·exact (HK6.out.more (by simp)).setCell hty (by simp) _
structure PrS (w0 : World) (SB g q : Nat) (pv vv : Value) (w : World) (l : List UInt8) (n : Nat) : Prop where
 sc : Cells w SB 29 [pv, vv]
 bd : Lib.IsBuilder 128 5 w0.heap.size g (Lib.byteCells l) w
 ct : Cells w q 3 [.int .i64 n]
 low : Below w0.heap.size w0 w
 q0 : w0.heap.size ≤ q
 s0 : w0.heap.size ≤ SB
section
variable {w0 w w' : World} {SB g q n : Nat} {pv vv : Value} {l : List UInt8}
theorem PrS.below (h : PrS w0 SB g q pv vv w l n) (hb : Below w.heap.size w w') : PrS w0 SB g q pv vv w' l n := ⟨h.sc.below hb h.sc.lt, builder_below h.bd hb, h.ct.below hb h.ct.lt, h.low.trans (hb.mono h.low.size), h.q0, h.s0⟩
theorem PrS.kpt {E : List TypeId} (h : PrS w0 SB g q pv vv w l n) (hk : KpT E w.heap.size w w') (h1 : 29 ∉ E) (h2 : 128 ∉ E) (h3 : 5 ∉ E) (h4 : 3 ∉ E) (hl : Below w0.heap.size w0 w') : PrS w0 SB g q pv vv w' l n :=
 ⟨(hk.block SB _ h.sc.lt (TyB.of_cells h.sc) h1).trans h.sc, builder_keep h.bd (hk.block g _ (builder_ty h.bd).2.lt (builder_ty h.bd).2 h2) (fun k ht => hk.block k _ ht.lt ht h3), (hk.block q _ h.ct.lt (TyB.of_cells h.ct) h4).trans h.ct, hl, h.q0, h.s0⟩
theorem PrS.line {l' : List UInt8} {m : Nat} (h : PrS w0 SB g q pv vv w l n) (hb : Lib.IsBuilder 128 5 w0.heap.size g (Lib.byteCells l') w') (hc : Cells w' q 3 [.int .i64 m]) (hl : Below w0.heap.size w w') (hk : KpT [5, 128, 3] w.heap.size w w') : PrS w0 SB g q pv vv w' l' m :=
 ⟨(hk.block SB _ h.sc.lt (TyB.of_cells h.sc) (by decide)).trans h.sc, hb, hc, h.low.trans hl, h.q0, h.s0⟩
theorem cells_kpt {E : List TypeId} {b : Nat} {T : TypeId} {xs : List Value} (h : Cells w b T xs) (hk : KpT E w.heap.size w w') (hT : T ∉ E) : Cells w' b T xs := (hk.block b _ h.lt (TyB.of_cells h) hT).trans h
theorem builder_cell1 {T e : TypeId} {B b : Nat} {bs : List Value} (h : Lib.IsBuilder T e B b bs w) : ∃ A c, w.cell? ⟨b, 1, Option.none⟩ = some (.slice A bs.length c) ∧ bs.length ≤ c ∧ c ≤ maxLen := by
 have key : ∀ p, Lib.BuilderAt T e B b p bs w → ∃ A c, w.cell? ⟨b, 1, Option.none⟩ = some (.slice A bs.length c) ∧ bs.length ≤ c ∧ c ≤ maxLen := fun p ⟨_, v, hbk, hown, _⟩ => by
  obtain ⟨A, c, rfl, h1, h2, _⟩ := Row.of_own hown
  exact ⟨A, c, by rw [Lib.cell_of_heap hbk]; rfl, h1, h2⟩
 exact h.elim (key _) (key _)
end
theorem builderLen_any (B b : Nat) (l : List UInt8) (w : World) (h : Lib.IsBuilder 128 5 B b (Lib.byteCells l) w) :
  Calls Tryz.prog 61 #[.pointer (some ⟨b, 0, Option.none⟩)] w fun e w' => e = .returned (.int .i64 l.length) ∧ w = w' := by
 obtain ⟨A, c, c1, _, hm⟩ := builder_cell1 h
 rw [byteCells_len] at c1
 clear h
 go_enter Tryz.func61, Tryz.ntmps61
 go_wp2_with fail
 go_ret
 exact ⟨rfl, rfl⟩
theorem prW_next {p : List Int} {k : Nat} (hk : k < p.length) : prW (p.take (k + 1)) = prW (p.take k) ++ [itoa (p[k]'hk)] := by
 unfold prW
 rw [List.take_succ_eq_append_getElem hk, List.map_append]
 rfl
theorem prW_len (p : List Int) : (prW p).length = p.length + 1 := by unfold prW; simp
def evWT (x : Ev) (j : Nat) : List (List UInt8) := ratText x.num x.den :: [58] :: (x.notes.take j).map ketT
theorem evWT_next {x : Ev} {j : Nat} (hj : j < x.notes.length) : evWT x (j + 1) = evWT x j ++ [ketT (x.notes[j]'hj)] := by
 unfold evWT
 rw [List.take_succ_eq_append_getElem hj, List.map_append]
 rfl
theorem evWT_len (x : Ev) {j : Nat} (hj : j ≤ x.notes.length) : (evWT x j).length = j + 2 := by unfold evWT; simp [List.length_take, Nat.min_eq_left hj]
theorem evWT_all (x : Ev) : evWT x x.notes.length = evW x := by unfold evWT evW; rw [List.take_length]
theorem fracB_len {a b : List UInt8} (h : FracB a b) : a.length ≤ 401 ∧ b.length ≤ 401 := by
 obtain ⟨n, d, rfl, rfl, h1, h2, _⟩ := h
 rcases itoa_cases n with ⟨_, e⟩ | ⟨_, e⟩ <;> rcases itoa_cases d with ⟨_, e2⟩ | ⟨_, e2⟩ <;> rw [e, e2] <;> (try simp only [List.length_cons]) <;> omega
set_option maxRecDepth 100000 in
set_option maxHeartbeats 8000000 in
theorem scPrint_ok (pv vv : Value) (s : Sc) (w : World) (hS : Std w) (h : ScV w w.heap.size pv vv s) (hm : ScSm s) (he : scErr s = 0) (hT : (lnsT (scL s)).length ≤ 1000000) (hN : lnsN (scL s) ≤ 1000000) :
  Calls Tryz.prog 20 #[.agg #[pv, vv]] w fun e w' => e = .returned (prOut s) ∧ Below w.heap.size w w' := by
 obtain ⟨i0, hi0, hz0, hz1, hz2⟩ := info_parts Tryz.info_string
 have hba : Below w.heap.size w (w.alloc (.cells #[pv, vv] 29)) := (Below.refl _ _).alloc (Nat.le_refl _) _
 have HC := Lib.hid (scCheck_any pv vv s _ (hS.below hba (Nat.le_refl _)) (h.lift hba) hm)
 rw [he] at HC
 have HC1 := Lib.hid (Cells.new w 29 #[pv, vv])
 have HBA := Lib.hid hba
 have HS := Lib.hid hS
 have HOK : Box (ScOk s) := ⟨ScOk.of he⟩
 obtain ⟨hp, A, c, rfl, _, hcm, hv⟩ := h
 have HP := Lib.hid hp
 obtain ⟨AP, cp, rfl, _, hpm⟩ := hp.shape
 have HV := Lib.hid hv
 have HTT : Box ((lnsT (scL s)).length ≤ 1000000 ∧ lnsN (scL s) ≤ 1000000) := ⟨⟨hT, hN⟩⟩
 have hpl : s.primes.length ≤ 6 := primeErr_six HOK.out.prm
 have hvl := HOK.out.vcs
 unfold maxLen at hcm hpm
 clear hS hp hm he hba hv hT hN
 go_enter Tryz.func20, Tryz.ntmps20
 go_wp2_with fail
 refine HC.out.mono ?_
 rintro e w1 ⟨rfl, hb1⟩
 have HB1 := Lib.hid (HBA.out.trans (hb1.mono HBA.out.size))
 have hw1 := hb1.size
 obtain ⟨W, hW⟩ : ∃ W, W = ((w1.alloc (.cells #[.pointer Option.none, .slice Option.none 0 0] 128)).alloc (.cells #[.int .i64 0] 3)) := ⟨_, rfl⟩
 have hbW : Below w1.heap.size w1 W := by rw [hW]; exact ((Below.refl _ _).alloc (Nat.le_refl _) _).alloc (by simp) _
 obtain ⟨g, hg⟩ : ∃ g, g = w1.heap.size := ⟨_, rfl⟩
 obtain ⟨q, hq⟩ : ∃ q, q = w1.heap.size + 1 := ⟨_, rfl⟩
 have hwsz := HBA.out.size
 have HPS : Hid (PrS w w.heap.size g q (.slice AP s.primes.length cp) (.slice A s.voices.length c) W [] 0) := Lib.hid ⟨HC1.out.below (hb1.trans (hbW.mono hw1)) HC1.out.lt, by
  have hb0 : Lib.IsBuilder 128 5 w.heap.size w1.heap.size (Lib.byteCells []) (w1.alloc (.cells #[.pointer Option.none, .slice Option.none 0 0] 128)) := .inl ⟨by have := HB1.out.size; omega, _, heap_alloc_new _ _, World.ownsRow_nil _ _ _ _, by simp [Value.ownBlock]⟩
  rw [hg, hW]
  exact builder_below hb0 ((Below.refl _ _).alloc (Nat.le_refl _) _), by
  have h := Cells.new (w1.alloc (.cells #[.pointer Option.none, .slice Option.none 0 0] 128)) 3 #[.int .i64 0]
  rw [World.size_alloc] at h
  rw [hq, hW]
  exact h, HB1.out.trans (hbW.mono HB1.out.size), by have := HB1.out.size; omega, Nat.le_refl _⟩
 have hgw : w.heap.size ≤ g := by have := HB1.out.size; omega
 clear hb1 hbW HC1 HB1 HBA HC hw1 hwsz
 go_upto_region 7 with (fail)
 rw [← hW, ← hq, ← hg]
 clear hW hg hq
 obtain ⟨W1, hW1⟩ : ∃ W1, W1 = W.alloc (.cells #[.string ⟨#[112, 114, 105, 109, 101, 115]⟩] 9) := ⟨_, rfl⟩
 have hbW1 : Below W.heap.size W W1 := by rw [hW1]; exact (Below.refl _ _).alloc (Nat.le_refl _) _
 have HF0 : Hid (W1.ownsRow w.heap.size 9 1 (.slice (some ⟨W.heap.size, 0, Option.none⟩) 1 1) 1 (strs (prW (s.primes.take 0)))) := Lib.hid (by rw [hW1]; exact World.ownsRow_lit W #[.string ⟨#[112, 114, 105, 109, 101, 115]⟩] 1 HPS.out.low.size (by decide) rfl)
 replace HPS := Lib.hid (HPS.out.below hbW1)
 obtain ⟨z0, z1⟩ := cel2 HPS.out.sc
 clear hbW1
 go_upto_region 8 with (fail)
 rw [← hW1]
 clear hW1
 go_wp2_with fail
 go_loopw [8, 32] (fun o i wr => ∃ k : Nat, k ≤ s.primes.length ∧ i = .int .i64 k ∧ wr.ownsRow w.heap.size 9 1 o (k + 1) (strs (prW (s.primes.take k))) ∧ PrS w w.heap.size g q (.slice AP s.primes.length cp) (.slice A s.voices.length c) wr [] 0) (fun _ i _ => s.primes.length - (intOf i).toNat)
 case atStart => exact ⟨0, Nat.zero_le _, rfl, HF0.out, HPS.out⟩
 case round =>
  clear HF0 HPS z0 z1
  obtain ⟨k, hk, rfl, hown, hps⟩ := hrel
  have HPS := Lib.hid hps
  by_cases hlt : k < s.primes.length
  ·obtain ⟨A', c', e', _, _, hr⟩ := (HP.out.lift hps.low).row
   injection e' with e1 _ e3
   subst e1 e3
   obtain ⟨ad, rfl, _, hca⟩ := hr.i_at hlt
   have hyk : s.primes[k]?.getD 0 = s.primes[k]'hlt := by rw [List.getElem?_eq_getElem hlt]; rfl
   rw [hyk] at hca
   have hy := primeErr_mem HOK.out.prm (List.getElem_mem hlt)
   have HNX : Box (prW (s.primes.take (k + 1)) = prW (s.primes.take k) ++ [itoa (s.primes[k]'hlt)]) := ⟨prW_next hlt⟩
   clear hyk
   generalize s.primes[k]'hlt = y at *
   have HO1 : Hid (∀ W, Std W → Calls Tryz.prog 36 #[.int .i64 y, .int .i64 1] W fun e w' => e = .returned (.tuple #[.agg #[.string ⟨(itoa y).toArray⟩, .string ⟨#[49]⟩], .int .i64 0]) ∧ Below W.heap.size W w') := Lib.hid (fun W h => by
    have h1 := fracOf_any y 1 W h (by omega) (by decide) (by decide)
    rw [(low_one y).1, (low_one y).2, show itoa 1 = [49] by kernel_rfl] at h1
    exact h1)
   have hyl : (itoa y).length ≤ 100 := Nat.le_trans (small_len (z := y) (by omega)).1 (by decide)
   have HTX := Lib.hid (fun W => fracText_any (itoa y) [49] W (by omega) (by decide))
   rw [show ratText (itoa y) [49] = itoa y from rfl] at HTX
   have HOW := Lib.hid hown
   have HSW := Lib.hid (HS.out.below hps.low (Nat.le_refl _))
   clear hy hown hps hr
   generalize itoa y = yt at *
   go_wp2_with fail
   refine (HO1.out _ HSW.out).mono ?_
   rintro e w5 ⟨rfl, hb5⟩
   obtain ⟨W5, hW5⟩ : ∃ W5, W5 = w5.alloc (.cells #[.string ⟨yt.toArray⟩, .string ⟨#[49]⟩] 51) := ⟨_, rfl⟩
   have hba : Below w5.heap.size w5 W5 := by rw [hW5]; exact (Below.refl _ _).alloc (Nat.le_refl _) _
   have HXB : Hid (Cells W5 w5.heap.size 51 [.string ⟨yt.toArray⟩, .string ⟨#[49]⟩]) := Lib.hid (by rw [hW5]; exact Cells.new w5 51 #[.string ⟨yt.toArray⟩, .string ⟨#[49]⟩])
   have hb55 := hb5.trans (hba.mono hb5.size)
   replace HPS := Lib.hid (HPS.out.below hb55)
   replace HOW := Lib.hid (own_below HOW.out hb55)
   obtain ⟨x0, x1⟩ := cel2 HXB.out
   clear hb5 hba hb55 HXB hca
   go_upto_region 12 with (fail)
   rw [← hW5]
   clear hW5
   go_wp2_with fail
   refine (HTX.out _).mono ?_
   rintro e w6 ⟨rfl, hb6⟩
   replace HPS := Lib.hid (HPS.out.below hb6)
   replace HOW := Lib.hid (own_below HOW.out hb6)
   clear hb6 x0 x1
   go_wp2_with (at_builtin; refine wpList_append_own _ rfl _ _ _ rfl w.heap.size 9 i0 (.string ⟨#[]⟩) 1 16 Tryz.underlying24 hi0 hz0 hz1 hz2 rfl (by decide) _ _ _ rfl (HOW.out.alloc _) ⟨w6.heap.size, 0, Option.none⟩ 1 1 [_] rfl rfl (cell_one_new _ _ _) (by intro u hu; simp at hu; subst hu; rfl) (by unfold maxLen; omega) (by omega) (by have := HPS.out.low.size; simp; omega) ?_; intro v9 w9 hown9 hg9 _)
   have hlow9 : Below w.heap.size w w9 := (HPS.out.low.alloc HPS.out.low.size (.cells #[.string ⟨yt.toArray⟩] 9)).grown hg9 (by have := HPS.out.low.size; simp; omega) (fun j hj => (HOW.out.lt j hj).1)
   have HPN := Lib.hid (HPS.out.kpt (E := [9]) (((KpT.refl [9] w6.heap.size w6).alloc (Nat.le_refl _) (.cells #[.string ⟨yt.toArray⟩] 9)).grown (HOW.out.alloc _) (by simp) hg9) (by decide) (by decide) (by decide) (by decide) hlow9)
   go_wp2_with fail
   go_roundw
   case rel => exact ⟨k + 1, by omega, by go_num, by rw [HNX.out, strs_snoc]; exact hown9, HPN.out⟩
   case measure => simp [intOf]; omega
  ·obtain rfl : k = s.primes.length := by omega
   rw [List.take_length] at hown
   have hT := HTT.out
   have h0 := scTo_le s 0
   rw [scTo_zero, lnsT_one, lnsN_one, lnT_len] at h0
   have HLN := Lib.hid (prLine_any w.heap.size g q w.heap.size 0 [] _ (prW s.primes) wr HPS.out.bd HPS.out.ct (by rw [prW_len]; exact hown) (by omega) (by omega) (by simp) (by omega) HPS.out.low.size HPS.out.q0)
   clear hown h0 hT hps
   go_wp2_with fail
   refine HLN.out.mono ?_
   rintro e w5 ⟨rfl, hbd5, hct5, hlo5, hkp5⟩
   have HP5 : Hid (PrS w w.heap.size g q (.slice AP s.primes.length cp) (.slice A s.voices.length c) w5 (lnsT (scTo s 0)) (lnsN (scTo s 0))) := Lib.hid (by
    rw [scTo_zero, lnsT_one, lnsN_one]
    exact HPS.out.line (by simpa using hbd5) (by simpa using hct5) hlo5 hkp5)
   obtain ⟨z0, z1⟩ := cel2 HP5.out.sc
   clear hbd5 hct5 hlo5 hkp5 HPS HLN
   go_wp2_with fail
   go_loopw [53] (fun i wr => ∃ k : Nat, k ≤ s.voices.length ∧ i = .int .i64 k ∧ PrS w w.heap.size g q (.slice AP s.primes.length cp) (.slice A s.voices.length c) wr (lnsT (scTo s k)) (lnsN (scTo s k))) (fun i _ => s.voices.length - (intOf i).toNat)
   case atStart => exact ⟨0, Nat.zero_le _, rfl, HP5.out⟩
   case round =>
    clear HP5 z0 z1
    obtain ⟨k, hk, rfl, hps⟩ := hrel
    have HPS := Lib.hid hps
    by_cases hlt : k < s.voices.length
    ·obtain ⟨b1, o1, A1, C1, rfl, hb1, _, q0, q1, h1c, h1m, hev⟩ := VcsT.at_ HV.out hlt
     have HEV := Lib.hid hev
     replace q0 := keep_cell q0 hps.low
     replace q1 := keep_cell q1 hps.low
     have HNX : Box (lnsT (scTo s (k + 1)) = lnsT (scTo s k) ++ lnsT (vcL (s.voices[k]'hlt)) ∧ lnsN (scTo s (k + 1)) = lnsN (scTo s k) + lnsN (vcL (s.voices[k]'hlt))) := ⟨by rw [scTo_next hlt, lnsT_append, lnsN_append]; exact ⟨rfl, rfl⟩⟩
     have HLE : Box ((lnsT (scTo s k)).length + (lnsT (vcL (s.voices[k]'hlt))).length ≤ 1000000 ∧ lnsN (scTo s k) + lnsN (vcL (s.voices[k]'hlt)) ≤ 1000000) := ⟨by
      have h1 := scTo_le s (k + 1)
      have h2 := HTT.out
      rw [HNX.out.1, HNX.out.2, List.length_append] at h1
      omega⟩
     have HEO : Box (∀ x ∈ (s.voices[k]'hlt).evs, FracB x.num x.den ∧ x.notes.length ≤ 12 ∧ ∀ y ∈ x.notes, chkAll s.primes [y] = 0) := ⟨HOK.out.ev _ (List.getElem_mem hlt)⟩
     have hel := HOK.out.evs _ (List.getElem_mem hlt)
     generalize s.voices[k]'hlt = v at *
     obtain ⟨nm, es⟩ := v
     dsimp only at *
     unfold maxLen at h1m
     generalize lnsT (scTo s k) = tx at *
     generalize lnsN (scTo s k) = n at *
     obtain ⟨VB, hVB⟩ : ∃ VB, VB = wr.heap.size := ⟨_, rfl⟩
     obtain ⟨W6, hW6⟩ : ∃ W6, W6 = wr.alloc (.cells #[.string ⟨nm.toArray⟩, .slice A1 es.length C1] 48) := ⟨_, rfl⟩
     have hba : Below wr.heap.size wr W6 := by rw [hW6]; exact (Below.refl _ _).alloc (Nat.le_refl _) _
     have HVB : Hid (Cells W6 VB 48 [.string ⟨nm.toArray⟩, .slice A1 es.length C1]) := Lib.hid (by rw [hW6, hVB]; exact Cells.new wr 48 #[.string ⟨nm.toArray⟩, .slice A1 es.length C1])
     replace HPS := Lib.hid (HPS.out.below hba)
     obtain ⟨y0, y1⟩ := cel2 HVB.out
     clear hev hps hba hb1
     go_upto_region 18 with (fail)
     rw [← hW6, ← hVB]
     clear hW6 hVB
     obtain ⟨W7, hW7⟩ : ∃ W7, W7 = W6.alloc (.cells #[.string ⟨#[118, 111, 105, 99, 101]⟩, .string ⟨nm.toArray⟩] 9) := ⟨_, rfl⟩
     have hba : Below W6.heap.size W6 W7 := by rw [hW7]; exact (Below.refl _ _).alloc (Nat.le_refl _) _
     have HVW : Hid (W7.ownsRow w.heap.size 9 1 (.slice (some ⟨W6.heap.size, 0, Option.none⟩) 2 2) (vcHd ⟨nm, es⟩).length (strs (vcHd ⟨nm, es⟩))) := Lib.hid (by rw [hW7]; exact World.ownsRow_lit W6 #[.string ⟨#[118, 111, 105, 99, 101]⟩, .string ⟨nm.toArray⟩] 2 HPS.out.low.size (by decide) rfl)
     replace HPS := Lib.hid (HPS.out.below hba)
     replace HVB := Lib.hid (HVB.out.below hba HVB.out.lt)
     have hv0 := vcTo_le ⟨nm, es⟩ 0
     have hle := HLE.out
     have hj0 : (Lib.join (vcHd ⟨nm, es⟩) [32]).length + 1 ≤ (lnsT (vcL ⟨nm, es⟩)).length := lnsT_mem (by unfold vcL; simp)
     have HLN := Lib.hid (prLine_any w.heap.size g q w.heap.size n tx _ (vcHd ⟨nm, es⟩) W7 HPS.out.bd HPS.out.ct HVW.out (by omega) (show 2 ≤ 1000000 by decide) (by omega) (by omega) HPS.out.low.size HPS.out.q0)
     clear hba HVW hv0 hle hj0
     go_wp2_with fail
     rw [← hW7]
     clear hW7 y0 y1
     refine HLN.out.mono ?_
     rintro e w8 ⟨rfl, hbd8, hct8, hlo8, hkp8⟩
     have HP8 : Hid (PrS w w.heap.size g q (.slice AP s.primes.length cp) (.slice (some ⟨b1, o1, Option.none⟩) s.voices.length c) w8 (tx ++ lnsT (vcTo ⟨nm, es⟩ 0)) (n + lnsN (vcTo ⟨nm, es⟩ 0))) := Lib.hid (by
      have e0 : vcTo ⟨nm, es⟩ 0 = [vcHd ⟨nm, es⟩] := rfl
      rw [e0, lnsT_one, lnsN_one]
      exact HPS.out.line hbd8 hct8 hlo8 hkp8)
     replace HVB := Lib.hid (cells_kpt HVB.out hkp8 (by decide))
     obtain ⟨y0, y1⟩ := cel2 HVB.out
     clear hbd8 hct8 hlo8 hkp8 HPS HLN
     go_wp2_with fail
     go_loopw [65] (fun i wr => ∃ j : Nat, j ≤ es.length ∧ i = .int .i64 j ∧ PrS w w.heap.size g q (.slice AP s.primes.length cp) (.slice (some ⟨b1, o1, Option.none⟩) s.voices.length c) wr (tx ++ lnsT (vcTo ⟨nm, es⟩ j)) (n + lnsN (vcTo ⟨nm, es⟩ j))) (fun i _ => es.length - (intOf i).toNat)
     case atStart => exact ⟨0, Nat.zero_le _, rfl, HP8.out⟩
     case round =>
      clear HP8 y0 y1 HVB q0 q1
      obtain ⟨j, hj, rfl, hps⟩ := hrel
      have HPS := Lib.hid hps
      by_cases hjl : j < es.length
      ·obtain ⟨b2, o2, A2, C2, rfl, hb2, _, p0, p1, p2, h2c, h2m, hnt⟩ := EvsT.at_ HEV.out hjl
       have HNT := Lib.hid hnt
       replace p0 := keep_cell p0 hps.low
       replace p1 := keep_cell p1 hps.low
       replace p2 := keep_cell p2 hps.low
       obtain ⟨hfr, hn12, hck⟩ := HEO.out _ (List.getElem_mem hjl)
       have HCK : Box (∀ y ∈ (es[j]'hjl).notes, chkAll s.primes [y] = 0) := ⟨hck⟩
       have hfl := fracB_len hfr
       have HNE : Box (lnsT (vcTo ⟨nm, es⟩ (j + 1)) = lnsT (vcTo ⟨nm, es⟩ j) ++ lnT (evW (es[j]'hjl)) ∧ lnsN (vcTo ⟨nm, es⟩ (j + 1)) = lnsN (vcTo ⟨nm, es⟩ j) + ((evW (es[j]'hjl)).length + 1)) := ⟨by
        have h1 : vcTo ⟨nm, es⟩ (j + 1) = vcTo ⟨nm, es⟩ j ++ [evW (es[j]'hjl)] := vcTo_next (v := ⟨nm, es⟩) hjl
        rw [h1, lnsT_append, lnsN_append, lnsT_one, lnsN_one]
        exact ⟨rfl, rfl⟩⟩
       have HLJ : Box (tx.length + (lnsT (vcTo ⟨nm, es⟩ j)).length + ((Lib.join (evW (es[j]'hjl)) [32]).length + 1) ≤ 1000000 ∧ n + lnsN (vcTo ⟨nm, es⟩ j) + ((evW (es[j]'hjl)).length + 1) ≤ 1000000) := ⟨by
        have h1 := vcTo_le ⟨nm, es⟩ (j + 1)
        have h2 := HLE.out
        rw [HNE.out.1, HNE.out.2, List.length_append, lnT_len] at h1
        omega⟩
       generalize es[j]'hjl = x at *
       obtain ⟨xn, xd, ns⟩ := x
       dsimp only at *
       unfold maxLen at h2m
       generalize lnsT (vcTo ⟨nm, es⟩ j) = ty at *
       generalize lnsN (vcTo ⟨nm, es⟩ j) = m at *
       obtain ⟨XB, hXB⟩ : ∃ XB, XB = wr.heap.size := ⟨_, rfl⟩
       obtain ⟨W9, hW9⟩ : ∃ W9, W9 = wr.alloc (.cells #[.string ⟨xn.toArray⟩, .string ⟨xd.toArray⟩, .slice A2 ns.length C2] 54) := ⟨_, rfl⟩
       have hba : Below wr.heap.size wr W9 := by rw [hW9]; exact (Below.refl _ _).alloc (Nat.le_refl _) _
       have HXB : Hid (Cells W9 XB 54 [.string ⟨xn.toArray⟩, .string ⟨xd.toArray⟩, .slice A2 ns.length C2]) := Lib.hid (by rw [hW9, hXB]; exact Cells.new wr 54 #[.string ⟨xn.toArray⟩, .string ⟨xd.toArray⟩, .slice A2 ns.length C2])
       replace HPS := Lib.hid (HPS.out.below hba)
       obtain ⟨x0, x1, x2⟩ := cel3 HXB.out
       have HTX := Lib.hid (fun W => fracText_any xn xd W (by omega) (by omega))
       have HRT : Box (evWT ⟨xn, xd, ns⟩ 0 = [ratText xn xd, [58]]) := ⟨rfl⟩
       have HWN : Box (∀ i (hi : i < ns.length), evWT ⟨xn, xd, ns⟩ (i + 1) = evWT ⟨xn, xd, ns⟩ i ++ [ketT (ns[i]'hi)]) := ⟨fun i hi => evWT_next (x := ⟨xn, xd, ns⟩) hi⟩
       have HWL : Box (∀ i, i ≤ ns.length → (evWT ⟨xn, xd, ns⟩ i).length = i + 2) := ⟨fun i hi => evWT_len ⟨xn, xd, ns⟩ hi⟩
       have HWA : Box (evWT ⟨xn, xd, ns⟩ ns.length = evW ⟨xn, xd, ns⟩) := ⟨evWT_all ⟨xn, xd, ns⟩⟩
       clear hnt hps hba hb2 hfr hck hfl
       go_upto_region 22 with (fail)
       rw [← hW9, ← hXB]
       clear hW9 hXB p0 p1 p2
       generalize ratText xn xd = rt at *
       generalize evW ⟨xn, xd, ns⟩ = wl at *
       generalize evWT ⟨xn, xd, ns⟩ = wt at *
       go_wp2_with fail
       refine (HTX.out _).mono ?_
       rintro e w10 ⟨rfl, hb10⟩
       replace HPS := Lib.hid (HPS.out.below hb10)
       replace HXB := Lib.hid (HXB.out.below hb10 HXB.out.lt)
       clear hb10 x0 x1 x2
       obtain ⟨W10, hW10⟩ : ∃ W10, W10 = w10.alloc (.cells #[.string ⟨rt.toArray⟩, .string ⟨#[58]⟩] 9) := ⟨_, rfl⟩
       have hba : Below w10.heap.size w10 W10 := by rw [hW10]; exact (Below.refl _ _).alloc (Nat.le_refl _) _
       have HO0 : Hid (W10.ownsRow w.heap.size 9 1 (.slice (some ⟨w10.heap.size, 0, Option.none⟩) 2 2) (0 + 2) (strs (wt 0))) := Lib.hid (by rw [hW10, HRT.out]; exact World.ownsRow_lit w10 #[.string ⟨rt.toArray⟩, .string ⟨#[58]⟩] 2 HPS.out.low.size (by decide) rfl)
       replace HPS := Lib.hid (HPS.out.below hba)
       replace HXB := Lib.hid (HXB.out.below hba HXB.out.lt)
       obtain ⟨x0, x1, x2⟩ := cel3 HXB.out
       clear hba
       go_upto_region 23 with (fail)
       rw [← hW10]
       clear hW10
       go_wp2_with fail
       go_loopw [17, 76] (fun o i wr => ∃ k : Nat, k ≤ ns.length ∧ i = .int .i64 k ∧ wr.ownsRow w.heap.size 9 1 o (k + 2) (strs (wt k)) ∧ PrS w w.heap.size g q (.slice AP s.primes.length cp) (.slice (some ⟨b1, o1, Option.none⟩) s.voices.length c) wr (tx ++ ty) (n + m)) (fun _ i _ => ns.length - (intOf i).toNat)
       case atStart => exact ⟨0, Nat.zero_le _, rfl, HO0.out, HPS.out⟩
       case round =>
        clear HO0 HPS HXB x0 x1 x2
        obtain ⟨i, hi, rfl, hown, hps⟩ := hrel
        have HPS := Lib.hid hps
        by_cases hil : i < ns.length
        ·obtain ⟨b3, o3, u, rfl, hb3, _, r0, hu⟩ := NotesT.at_ HNT.out hil
         replace r0 := keep_cell r0 hps.low
         obtain ⟨t1, t2, t3, t4⟩ := txt_ok (HCK.out _ (List.getElem_mem hil))
         have HNI := Lib.hid (HWN.out i hil)
         have HUR := Lib.hid (hu.lift hps.low).row
         obtain ⟨A4, c4, rfl, _⟩ := hu.shape
         have HRX := Lib.hid (rowText_run _ (ns[i]'hil) wr (HS.out.below hps.low (Nat.le_refl _)) HUR.out t1 t2 t3 (by omega) true)
         rw [if_pos rfl] at HRX
         have hkt : 91 :: rowTxt (ns[i]'hil) ++ [62] = ketT (ns[i]'hil) := rfl
         rw [hkt] at HRX
         have HOW := Lib.hid hown
         clear hps hown hu t1 t2 t3 t4 hkt
         generalize ketT (ns[i]'hil) = kt at *
         generalize (ns[i]'hil).length = yl at *
         go_wp2_with fail
         refine HRX.out.mono ?_
         rintro e w11 ⟨rfl, hb11⟩
         replace HPS := Lib.hid (HPS.out.below hb11)
         replace HOW := Lib.hid (own_below HOW.out hb11)
         clear hb11 r0
         go_wp2_with (at_builtin; refine wpList_append_own _ rfl _ _ _ rfl w.heap.size 9 i0 (.string ⟨#[]⟩) 1 16 Tryz.underlying24 hi0 hz0 hz1 hz2 rfl (by decide) _ _ _ rfl (HOW.out.alloc _) ⟨w11.heap.size, 0, Option.none⟩ 1 1 [_] rfl rfl (cell_one_new _ _ _) (by intro u hu; simp at hu; subst hu; rfl) (by unfold maxLen; omega) (by omega) (by have := HPS.out.low.size; simp; omega) ?_; intro v9 w9 hown9 hg9 _)
         have hlow9 : Below w.heap.size w w9 := (HPS.out.low.alloc HPS.out.low.size (.cells #[.string ⟨kt.toArray⟩] 9)).grown hg9 (by have := HPS.out.low.size; simp; omega) (fun j hj => (HOW.out.lt j hj).1)
         have HPN := Lib.hid (HPS.out.kpt (E := [9]) (((KpT.refl [9] w11.heap.size w11).alloc (Nat.le_refl _) (.cells #[.string ⟨kt.toArray⟩] 9)).grown (HOW.out.alloc _) (by simp) hg9) (by decide) (by decide) (by decide) (by decide) hlow9)
         go_wp2_with fail
         go_roundw
         case rel => exact ⟨i + 1, by omega, by go_num, by rw [HNI.out, strs_snoc]; exact hown9, HPN.out⟩
         case measure => simp [intOf]; omega
        ·obtain rfl : i = ns.length := by omega
         rw [HWA.out] at hown
         have hwl := HWL.out _ (Nat.le_refl _)
         rw [HWA.out] at hwl
         have hlj := HLJ.out
         have HLN := Lib.hid (prLine_any w.heap.size g q w.heap.size (n + m) (tx ++ ty) _ wl wr HPS.out.bd HPS.out.ct (by rw [hwl]; exact hown) (by omega) (by omega) (by rw [List.length_append]; omega) (by omega) HPS.out.low.size HPS.out.q0)
         clear hown hps hwl hlj
         go_wp2_with fail
         refine HLN.out.mono ?_
         rintro e w12 ⟨rfl, hbd, hct, hlo, hkp⟩
         have HPN := Lib.hid (HPS.out.line hbd hct hlo hkp)
         clear hbd hct hlo hkp
         go_wp2_with fail
         go_roundw
         case rel => exact ⟨j + 1, by omega, by go_num, by rw [HNE.out.1, HNE.out.2, ← List.append_assoc, ← Nat.add_assoc]; exact HPN.out⟩
         case measure => simp [intOf]; omega
      ·obtain rfl : j = es.length := by omega
       have hva : vcTo ⟨nm, es⟩ es.length = vcL ⟨nm, es⟩ := vcTo_all ⟨nm, es⟩
       rw [hva, ← HNX.out.1, ← HNX.out.2] at hps
       go_wp2_with fail
       go_roundw
       case rel => exact ⟨k + 1, by omega, by go_num, hps⟩
       case measure => simp [intOf]; omega
    ·obtain rfl : k = s.voices.length := by omega
     rw [scTo_all] at hps
     have HPF := Lib.hid hps
     have HPO : Box (prOut s = if 4000 < lnsN (scL s) then .tuple #[.string ⟨#[]⟩, .int .i64 4] else if 65536 < (lnsT (scL s)).length then .tuple #[.string ⟨#[]⟩, .int .i64 16] else .tuple #[.string ⟨(lnsT (scL s)).toArray⟩, .int .i64 0]) := ⟨rfl⟩
     have hT := HTT.out
     clear hps HPS
     generalize lnsT (scL s) = tx at *
     generalize lnsN (scL s) = n at *
     have q0 := HPF.out.ct.cell 0
     simp only [List.getElem?_cons_zero] at q0
     by_cases h4 : 4000 < n
     ·have HE : Box (prOut s = .tuple #[.string ⟨#[]⟩, .int .i64 4]) := ⟨by rw [HPO.out, if_pos h4]⟩
      go_wp2_with fail
      go_ret2
      exact ⟨by rw [HE.out]; rfl, HPF.out.low⟩
     ·have HLB := Lib.hid (builderLen_any w.heap.size g tx wr HPF.out.bd)
      go_wp2_with fail
      refine HLB.out.mono ?_
      rintro e w5 ⟨rfl, rfl⟩
      by_cases h6 : 65536 < tx.length
      ·have HE : Box (prOut s = .tuple #[.string ⟨#[]⟩, .int .i64 16]) := ⟨by rw [HPO.out, if_neg h4, if_pos h6]⟩
       go_wp2_with fail
       go_ret2
       exact ⟨by rw [HE.out]; rfl, HPF.out.low⟩
      ·have HE : Box (prOut s = .tuple #[.string ⟨tx.toArray⟩, .int .i64 0]) := ⟨by rw [HPO.out, if_neg h4, if_neg h6]⟩
       go_wp2_with fail
       refine (builderString_any w.heap.size g tx wr (Lib.IsBuilderF.of HPF.out.bd) HPF.out.low.size).mono ?_
       rintro e w6 ⟨rfl, _, hb6⟩
       go_wp2_with fail
       go_ret2
       exact ⟨by rw [HE.out]; rfl, HPF.out.low.trans hb6⟩
end Go.Proofs.YtaaeekahhhookaaGreatDoor
