import Derived.Test.YtaaeekahhhookaaGreatDoorGIMCk
import Derived.Deep.RegionHeld3
import Derived.Test.YtaaeekahhhookaaGreatDoorGACk
import GoSem.Step
import Derived.Calls
import Derived.Below
import Derived.Deep.Draws
namespace Go.Proofs.YtaaeekahhhookaaGreatDoor
open Go.RowKit Go.Lib
set_option maxHeartbeats 400000 in
theorem fLittle_yes (z : Int) (w : World) (hl : (itoa z).length ≤ 9) :
  Calls Tryz.prog 155 #[.string ⟨(itoa z).toArray⟩] w fun e w' => e = .returned (.tuple #[.int .i64 z, .bool true]) ∧ Below w.heap.size w w' := by
 have hz := itoa_len_lt hl
 have ha := atoi_itoa z (by omega) (by omega)
 have HF := Lib.hid (Tryz.strconv_Atoi_ok ⟨(itoa z).toArray⟩ (by simp [ByteArray.size]; omega) z (by simpa using ha) w)
 clear hz ha
 generalize itoa z = l at *
 go_enter Tryz.func155, Tryz.ntmps155
 go_wp2_with (go_at_call 183; refine HF.out.mono ?_; rintro e w' ⟨rfl, hw⟩; have hb := bytes_below' hw; clear hw)
 go_quiet (fail)
 go_wp2
 go_ret2
 exact ⟨rfl, below_drewN hb _⟩
set_option maxHeartbeats 1000000 in
theorem fBoth_yes (n d : Int) (w : World) (hn : (itoa n).length ≤ 9) (hd : (itoa d).length ≤ 9) :
  Calls Tryz.prog 106 #[.agg #[.string ⟨(itoa n).toArray⟩, .string ⟨(itoa d).toArray⟩]] w fun e w' => e = .returned (.tuple #[.int .i64 n, .int .i64 d, .bool true]) ∧ Below w.heap.size w w' := by
 have H1 := Lib.hid (fun W => fLittle_yes n W hn)
 have H2 := Lib.hid (fun W => fLittle_yes d W hd)
 generalize itoa n = sn at *
 generalize itoa d = sd at *
 clear hn hd
 go_enter Tryz.func106, Tryz.ntmps106
 go_wp2_with fail
 refine (H1.out _).mono ?_
 rintro e w1 ⟨rfl, hb1⟩
 rw [World.size_alloc] at hb1
 have hC := Lib.hid (cells_of_below hb1)
 have p1 := hC.out.cell 1
 simp at p1
 have hbw := below_result hb1
 clear hb1
 go_wp2_with fail
 refine (H2.out _).mono ?_
 rintro e w2 ⟨rfl, hb2⟩
 have hbw2 := hbw.trans (hb2.mono hbw.size)
 clear hb2 hbw p1
 go_wp2_with fail
 exact bodyPost_ret (v := .tuple #[.int .i64 n, .int .i64 d, .bool true]) (by simp [results, Tryz.results106, go_sem]) rfl ⟨rfl, hbw2⟩
theorem itoa_any (z : Int) (w : World) (h0 : -9223372036854775808 ≤ z) (h1 : z ≤ 9223372036854775807) (hS : Std w) :
  Calls Tryz.prog 101 #[.int .i64 z] w fun e w' => e = .returned (.string ⟨(itoa z).toArray⟩) ∧ Below w.heap.size w w' :=
 (Tryz.strconv_Itoa z h0 h1 w hS.tab).mono fun _ _ ⟨he, hw⟩ => ⟨he, grow_below hw⟩
def RatAt (w w' : World) : Prop := Below w.heap.size w w' ∧ ∃ a b, Cells w' w.heap.size 51 [a, b]
theorem RatAt.next {w W0 w2 : World} (h : RatAt w W0) (h2 : Below W0.heap.size W0 w2) : RatAt w w2 := by
 obtain ⟨h1, a, b, hc⟩ := h
 exact ⟨h1.trans (h2.mono h1.size), a, b, hc.below h2 hc.lt⟩
theorem RatAt.drew {w W0 : World} (h : RatAt w W0) : RatAt w W0.drew := ⟨⟨h.1.os, h.1.tape, h.1.output, h.1.size, h.1.block⟩, h.2⟩
theorem RatAt.set {w W0 : World} (h : RatAt w W0) (u v : Value) : RatAt w ((W0.setCell ⟨w.heap.size, 0, Option.none⟩ u).setCell ⟨w.heap.size, 1, Option.none⟩ v) := by
 obtain ⟨h1, a, b, hc⟩ := h
 exact ⟨(h1.setCell (Nat.le_refl _) _).setCell (Nat.le_refl _) _, u, v, (hc.set 0 u).set 1 v⟩
theorem RatAt.cells {w W0 : World} (h : RatAt w W0) : ∃ a b, (W0.cell? ⟨w.heap.size, 0, Option.none⟩ = some a ∧ W0.cell? ⟨w.heap.size, 1, Option.none⟩ = some b) ∧ W0.frozen? ⟨w.heap.size, 0, Option.none⟩ = false ∧ W0.frozen? ⟨w.heap.size, 1, Option.none⟩ = false := by
 obtain ⟨_, a, b, hc⟩ := h
 exact ⟨a, b, ⟨hc.cell 0, hc.cell 1⟩, hc.free 0, hc.free 1⟩
theorem low_bd {n d : Int} : (lowN n d).natAbs ≤ n.natAbs ∧ (lowD n d).natAbs ≤ d.natAbs := by
 unfold lowN lowD
 exact ⟨Int.natAbs_ediv_le_natAbs _ _, Int.natAbs_ediv_le_natAbs _ _⟩
theorem low_tdiv {n d : Int} {a : Int} (ha : 0 ≤ a) (h : a.natAbs = Nat.gcd n.natAbs d.natAbs) : n.tdiv a = lowN n d ∧ d.tdiv a = lowD n d := by
 have e : a = (Nat.gcd n.natAbs d.natAbs : Nat) := by omega
 unfold lowN lowD
 rw [e]
 exact ⟨Int.tdiv_eq_ediv_of_dvd (Int.ofNat_dvd_left.2 (Nat.gcd_dvd_left _ _)), Int.tdiv_eq_ediv_of_dvd (Int.ofNat_dvd_left.2 (Nat.gcd_dvd_right _ _))⟩
theorem gcd_step {x y : Int} : Nat.gcd y.natAbs (x.tmod y).natAbs = Nat.gcd x.natAbs y.natAbs := by
 rw [Int.natAbs_tmod, Nat.gcd_comm x.natAbs, Nat.gcd_rec y.natAbs x.natAbs, Nat.gcd_comm]
set_option maxRecDepth 100000 in
set_option maxHeartbeats 2000000 in
theorem fOf_any (n d : Int) (w : World) (hS : Std w) (hn : n.natAbs ≤ 2000000000000000000) (hd0 : 0 < d) (hd : d.natAbs ≤ 1000000000000000000) :
  Calls Tryz.prog 144 #[.int .i64 n, .int .i64 d] w fun e w' => e = .returned (.agg #[.string ⟨(itoa (lowN n d)).toArray⟩, .string ⟨(itoa (lowD n d)).toArray⟩]) ∧ Below w.heap.size w w' := by
 have HN : Box (n.natAbs ≤ 2000000000000000000) := ⟨hn⟩
 have HD : Box (0 < d ∧ d.natAbs ≤ 1000000000000000000) := ⟨⟨hd0, hd⟩⟩
 have HI1 := Lib.hid (fun W (h : RatAt w W) => itoa_any (lowN n d) W (by have := (low_bd (n := n) (d := d)).1; omega) (by have := (low_bd (n := n) (d := d)).1; omega) (hS.below h.1 (Nat.le_refl _)))
 have HI2 := Lib.hid (fun W (h : RatAt w W) => itoa_any (lowD n d) W (by have := (low_bd (n := n) (d := d)).2; omega) (by have := (low_bd (n := n) (d := d)).2; omega) (hS.below h.1 (Nat.le_refl _)))
 clear hS
 clear hn hd0 hd
 go_enter Tryz.func144, Tryz.ntmps144
 go_wp2_with fail
 go_loopw [5, 6] (fun a b wr => ∃ x y : Int, a = .int .i64 x ∧ b = .int .i64 y ∧ Box (x.natAbs ≤ 2000000000000000000 ∧ y.natAbs ≤ 1000000000000000000) ∧ Box (Nat.gcd x.natAbs y.natAbs = Nat.gcd n.natAbs d.natAbs) ∧ RatAt w wr) (fun _ b _ => (intOf b).natAbs)
 case atStart => exact ⟨n, d, rfl, rfl, ⟨⟨HN.out, HD.out.2⟩⟩, ⟨rfl⟩, (Below.refl _ _).alloc (Nat.le_refl _) _, _, _, Cells.new w 51 #[.string ⟨#[]⟩, .string ⟨#[]⟩]⟩
 case round =>
  obtain ⟨x, y, rfl, rfl, HL, HG, hbw⟩ := hrel
  by_cases hy : y = 0
  ·have HY : Box (x.natAbs = Nat.gcd n.natAbs d.natAbs) := ⟨by rw [← HG.out, hy]; simp⟩
   have hyb : (y != 0) = false := by simpa using hy
   clear hy
   have HGP : Box (0 < Nat.gcd n.natAbs d.natAbs) := ⟨Nat.gcd_pos_of_pos_right _ (by have := HD.out.1; omega)⟩
   by_cases hx : x < 0
   ·obtain ⟨a, rfl⟩ : ∃ a, x = -a := ⟨-x, by omega⟩
    have hwa : IntKind.i64.wrap a = a := IntWalk.i64_in _ (by have := HL.out; omega)
    have ha0 : 0 < a := by omega
    have hne : ¬ a = 0 := by have := HY.out; have := HGP.out; omega
    have hneb : (a == 0) = false := by rw [beq_eq_false_iff_ne]; exact hne
    obtain ⟨hq1, hq2⟩ := low_tdiv (n := n) (d := d) (a := a) (by omega) (by first | exact HY.out | (rw [← HY.out]; omega))
    have hw1 : IntKind.i64.wrap (lowN n d) = lowN n d := IntWalk.i64_in _ (by have := (low_bd (n := n) (d := d)).1; have := HN.out; omega)
    have hw2 : IntKind.i64.wrap (lowD n d) = lowD n d := IntWalk.i64_in _ (by have := (low_bd (n := n) (d := d)).2; have := HD.out; omega)
    generalize hln : lowN n d = ln at *
    generalize hld : lowD n d = ld at *
    have HLN : Box (lowN n d = ln) := ⟨hln⟩
    have HLD : Box (lowD n d = ld) := ⟨hld⟩
    clear hln hld
    go_wp2_with fail
    go_region_held3 (fun w' => RatAt w w')
     (first | assumption | exact RatAt.drew (by assumption) | exact hbn | exact RatAt.set hbn _ _)
     (first | (go_at_call 101; refine (HI1.out _ (by assumption)).mono ?_; rintro e w2 ⟨rfl, hb2⟩; have hbn := RatAt.next (w := w) (by assumption) hb2; obtain ⟨z0, z1, ⟨z2, z3⟩, z4, z5⟩ := hbn.cells) | (go_at_call 101; refine (HI2.out _ (by assumption)).mono ?_; rintro e w2 ⟨rfl, hb2⟩; have hbn := RatAt.next (w := w) (by assumption) hb2; obtain ⟨z0, z1, ⟨z2, z3⟩, z4, z5⟩ := hbn.cells))
    go_wp2_with fail
    refine bodyPost_ret (v := .agg #[.string ⟨(itoa ln).toArray⟩, .string ⟨(itoa ld).toArray⟩]) (by simp (maxDischargeDepth := 10) [results, Tryz.results144, go_sem, z2, z3]) rfl ⟨by rw [HLN.out, HLD.out], ?_⟩
    exact (hbn.set _ _).1
   ·have ha0 : 0 ≤ x := by omega
    have hne : ¬ x = 0 := by have := HY.out; have := HGP.out; omega
    have hneb : (x == 0) = false := by rw [beq_eq_false_iff_ne]; exact hne
    obtain ⟨hq1, hq2⟩ := low_tdiv (n := n) (d := d) (a := x) (by omega) (by first | exact HY.out | (rw [← HY.out]; omega))
    have hw1 : IntKind.i64.wrap (lowN n d) = lowN n d := IntWalk.i64_in _ (by have := (low_bd (n := n) (d := d)).1; have := HN.out; omega)
    have hw2 : IntKind.i64.wrap (lowD n d) = lowD n d := IntWalk.i64_in _ (by have := (low_bd (n := n) (d := d)).2; have := HD.out; omega)
    generalize hln : lowN n d = ln at *
    generalize hld : lowD n d = ld at *
    have HLN : Box (lowN n d = ln) := ⟨hln⟩
    have HLD : Box (lowD n d = ld) := ⟨hld⟩
    clear hln hld
    go_wp2_with fail
    go_region_held3 (fun w' => RatAt w w')
     (first | assumption | exact RatAt.drew (by assumption) | exact hbn | exact RatAt.set hbn _ _)
     (first | (go_at_call 101; refine (HI1.out _ (by assumption)).mono ?_; rintro e w2 ⟨rfl, hb2⟩; have hbn := RatAt.next (w := w) (by assumption) hb2; obtain ⟨z0, z1, ⟨z2, z3⟩, z4, z5⟩ := hbn.cells) | (go_at_call 101; refine (HI2.out _ (by assumption)).mono ?_; rintro e w2 ⟨rfl, hb2⟩; have hbn := RatAt.next (w := w) (by assumption) hb2; obtain ⟨z0, z1, ⟨z2, z3⟩, z4, z5⟩ := hbn.cells))
    go_wp2_with fail
    refine bodyPost_ret (v := .agg #[.string ⟨(itoa ln).toArray⟩, .string ⟨(itoa ld).toArray⟩]) (by simp (maxDischargeDepth := 10) [results, Tryz.results144, go_sem, z2, z3]) rfl ⟨by rw [HLN.out, HLD.out], ?_⟩
    exact (hbn.set _ _).1
  ·have hyb : (y != 0) = true := by simpa using hy
   have hyc : (y == 0) = false := by simpa using hy
   have HLT : Box ((x.tmod y).natAbs < y.natAbs) := ⟨by rw [Int.natAbs_tmod]; exact Nat.mod_lt _ (by omega)⟩
   have HGG : Box (Nat.gcd y.natAbs (x.tmod y).natAbs = Nat.gcd n.natAbs d.natAbs) := ⟨by rw [gcd_step, HG.out]⟩
   have hwr : IntKind.i64.wrap (x.tmod y) = x.tmod y := IntWalk.i64_in _ (by have := HLT.out; have := HL.out; omega)
   go_wp2_with fail
   go_quiet (fail)
   go_wp2_with fail
   go_roundw
   case rel => exact ⟨y, x.tmod y, rfl, rfl, ⟨by have := HL.out; omega, by have := HLT.out; have := HL.out; omega⟩, ⟨HGG.out⟩, below_drewN hbw.1 _, hbw.2⟩
   case measure => exact HLT.out
theorem low_rat {n d : Int} (hd : 0 < d) : lowN n d = (mkRat n d.toNat).num ∧ lowD n d = ((mkRat n d.toNat).den : Int) := by
 obtain ⟨m, rfl⟩ : ∃ m : Nat, d = m := ⟨d.toNat, by omega⟩
 have hm : m ≠ 0 := by omega
 rw [Int.toNat_natCast, Rat.num_mkRat, Rat.den_mkRat, if_neg hm, if_neg hm]
 unfold lowN lowD
 rw [Int.natAbs_natCast, Nat.gcd_comm]
 exact ⟨rfl, by rw [Int.natCast_ediv]⟩
end Go.Proofs.YtaaeekahhhookaaGreatDoor
namespace Go.Proofs.YtaaeekahhhookaaGreatDoor
def NN : Nat := 67108864
attribute [irreducible] NN
end Go.Proofs.YtaaeekahhhookaaGreatDoor
namespace Go.Proofs.YtaaeekahhhookaaGreatDoor
open Go Go.RowKit
def EOk {ε α : Type} (P : α → Prop) (x : Except ε α) : Prop := ∀ b, x = .ok b → P b
theorem EOk.bind {ε α β : Type} {P : β → Prop} {x : Except ε α} {f : α → Except ε β} (h : ∀ a, EOk P (f a)) : EOk P (x >>= f) := by
 intro b e
 cases x with
 | error _ => cases e
 | ok a => exact h a b e
theorem EOk.err {ε α : Type} {P : α → Prop} (e : ε) : EOk P (Except.error e : Except ε α) := fun b h => by cases h
theorem EOk.pure {ε α : Type} {P : α → Prop} {a : α} (h : P a) : EOk P (Except.ok a : Except ε α) := fun b e => by cases e; exact h
theorem viewStore_same (p : Program) (w : World) (at_ : Addr) (u : TypeId) (k : Addr) (v : Value) (b : Bool) : EOk (fun r : World × List Addr => r.1.drawn = w.drawn) (w.viewStore p at_ u k v b) := by
 unfold World.viewStore
 dsimp only
 repeat' (first | exact EOk.err _ | exact EOk.pure rfl | (refine EOk.bind fun _ => ?_) | split)
theorem farStore_same {p : Program} {w w' : World} {a : Addr} {v : Value} {b : Bool} {l : List Addr} (h : w.farStore p a v b = .ok (w', l)) : w'.drawn = w.drawn := by
 unfold World.farStore at h
 split at h
 ·split at h
  ·rename_i heq
   injection h with h
   subst h
   exact viewStore_same _ _ _ _ _ _ _ _ heq
  ·cases h
 ·cases h
theorem ask_up {α : Type} (q : Ask α) : ∀ w : World, w.drawn ≤ (w.ask q).2.drawn := by
 induction q with
 | done a => intro w; exact Nat.le_refl _
 | ask what range k ih =>
   intro w
   unfold World.ask
   dsimp only
   split
   ·exact ih _ _
   ·exact Nat.le_trans (Nat.le_succ w.drawn) (ih _ { w with drawn := w.drawn + 1 })
theorem sys_up (w : World) (c : Sys) : w.drawn ≤ (w.sys c).2.drawn := by
 have h := ask_up (Kernel.perform c w.os) w
 unfold World.sys
 generalize w.ask (Kernel.perform c w.os) = r at *
 obtain ⟨⟨r1, os⟩, w1⟩ := r
 cases r1 <;> first | exact h | exact Nat.le_refl _
def RUp {α : Type} (d : Nat) : Result α → Prop
 | .ok _ w => d ≤ w.drawn
 | .halt _ w => d ≤ w.drawn
theorem run_up {α : Type} (p : Program) (s : Sem α) {d : Nat} : ∀ w : World, d ≤ w.drawn → RUp d (s.run p w) := by
 induction s with
 | pure a => intro w h; exact h
 | load m a k ih =>
   intro w h
   unfold Sem.run
   split
   ·exact ih _ _ h
   ·split
    ·exact ih _ _ h
    ·exact h
 | store m a v k ih =>
   intro w h
   have key : RUp d (match w.cell? a with
    | some _ => if w.frozen? a then Result.halt (.unsupported (.unsafePointer "a write to bytes that a string shares")) w else k.run p (w.setCell a v)
    | none => match w.farStore p a v (m == .atomic) with
      | .ok (w, _) => k.run p w
      | .error h => .halt h w) := by
    split
    ·split
     ·exact h
     ·exact ih (w.setCell a v) h
    ·split
     ·rename_i hf
      exact ih _ (by rw [farStore_same hf]; exact h)
     ·exact h
   cases v <;> first | exact key | exact h
 | new o k ih => intro w h; exact ih _ _ h
 | shape r k ih => intro w h; exact ih _ _ h
 | freeze a n k ih => intro w h; exact ih (w.freeze a n) (by unfold World.freeze; split <;> exact h)
 | frozen a k ih => intro w h; exact ih _ _ h
 | getObj r k ih =>
   intro w h
   unfold Sem.run
   split
   ·exact h
   ·exact ih _ _ h
   ·exact h
 | setObj r o k ih =>
   intro w h
   unfold Sem.run
   split
   ·exact h
   ·exact ih _ h
   ·exact h
 | choose q k ih =>
   intro w h
   unfold Sem.run
   split
   ·exact ih _ _ h
   ·exact ih _ _ (Nat.le_trans h (Nat.le_succ _))
 | sys c k ih => intro w h; exact ih _ _ (Nat.le_trans h (sys_up w c))
 | program k ih => intro w h; exact ih _ _ h
 | mark m k ih => intro w h; exact ih _ h
 | halt hh => intro w h; exact h
theorem runT_up {α : Type} (p : Program) (s : Sem α) {d : Nat} : ∀ (w : World) (es : Array Event), d ≤ w.drawn → RUp d (s.runT p w es).1 := by
 induction s with
 | pure a => intro w es h; exact h
 | load m a k ih =>
   intro w es h
   unfold Sem.runT
   split
   ·exact ih _ _ _ h
   ·split
    ·exact ih _ _ _ h
    ·exact h
 | store m a v k ih =>
   intro w es h
   have key : RUp d (match w.cell? a with
    | some _ =>
      if w.frozen? a then ((Result.halt (.unsupported (.unsafePointer "a write to bytes that a string shares")) w, es) : Result α × Array Event)
      else k.runT p (w.setCell a v) (es.push (⟨.cell a, true, m == Mode.atomic⟩ : Event))
    | none => match w.farStore p a v (m == Mode.atomic) with
      | .ok (w, touched) => k.runT p w (es ++ touched.toArray.map (fun x => (⟨.cell x, true, m == Mode.atomic⟩ : Event)))
      | .error h => (.halt h w, es)).1 := by
    split
    ·split
     ·exact h
     ·exact ih (w.setCell a v) _ h
    ·split
     ·rename_i hf
      exact ih _ _ (by rw [farStore_same hf]; exact h)
     ·exact h
   cases v <;> first | exact key | exact h
 | new o k ih => intro w es h; exact ih _ _ _ h
 | shape r k ih => intro w es h; exact ih _ _ _ h
 | freeze a n k ih => intro w es h; exact ih (w.freeze a n) _ (by unfold World.freeze; split <;> exact h)
 | frozen a k ih => intro w es h; exact ih _ _ _ h
 | getObj r k ih =>
   intro w es h
   unfold Sem.runT
   split
   ·exact h
   ·exact ih _ _ _ h
   ·exact h
 | setObj r o k ih =>
   intro w es h
   unfold Sem.runT
   split
   ·exact h
   ·exact ih _ _ h
   ·exact h
 | choose q k ih =>
   intro w es h
   unfold Sem.runT
   split
   ·exact ih _ _ _ h
   ·exact ih _ _ _ (Nat.le_trans h (Nat.le_succ _))
 | sys c k ih => intro w es h; exact ih _ _ _ (Nat.le_trans h (sys_up w c))
 | program k ih => intro w es h; exact ih _ _ _ h
 | mark m k ih => intro w es h; exact ih _ _ h
 | halt hh => intro w es h; exact h
theorem run_ok {α : Type} {p : Program} {s : Sem α} {d : Nat} {w w' : World} {a : α} (e : s.run p w = .ok a w') (h : d ≤ w.drawn) : d ≤ w'.drawn := by
 have := run_up p s w h
 rw [e] at this
 exact this
theorem run_halt {α : Type} {p : Program} {s : Sem α} {d : Nat} {w w' : World} {a : Halt} (e : s.run p w = .halt a w') (h : d ≤ w.drawn) : d ≤ w'.drawn := by
 have := run_up p s w h
 rw [e] at this
 exact this
theorem runT_ok {α : Type} {p : Program} {s : Sem α} {d : Nat} {w w' : World} {a : α} {es es' : Array Event} (e : s.runT p w es = (.ok a w', es')) (h : d ≤ w.drawn) : d ≤ w'.drawn := by
 have := runT_up p s w es h
 rw [e] at this
 exact this
theorem runT_halt {α : Type} {p : Program} {s : Sem α} {d : Nat} {w w' : World} {a : Halt} {es es' : Array Event} (e : s.runT p w es = (.halt a w', es')) (h : d ≤ w.drawn) : d ≤ w'.drawn := by
 have := runT_up p s w es h
 rw [e] at this
 exact this
theorem runT_fok {α : Type} {p : Program} {s : Sem α} {d : Nat} {w w' : World} {a : α} {es : Array Event} (e : (s.runT p w es).1 = .ok a w') (h : d ≤ w.drawn) : d ≤ w'.drawn := by
 have := runT_up p s w es h
 rw [e] at this
 exact this
theorem runT_fhalt {α : Type} {p : Program} {s : Sem α} {d : Nat} {w w' : World} {a : Halt} {es : Array Event} (e : (s.runT p w es).1 = .halt a w') (h : d ≤ w.drawn) : d ≤ w'.drawn := by
 have := runT_up p s w es h
 rw [e] at this
 exact this
def GUp (d : Nat) : GStep → Prop
 | .go _ w _ => d ≤ w.drawn
 | .comm _ _ _ _ w _ => d ≤ w.drawn
 | .spawn _ _ w _ => d ≤ w.drawn
 | .count _ w _ => d ≤ w.drawn
 | .timer _ _ w _ => d ≤ w.drawn
 | .alone _ _ w _ => d ≤ w.drawn
 | .newcoro _ _ _ w _ => d ≤ w.drawn
 | .coroswitch _ _ _ w _ => d ≤ w.drawn
 | .collect _ w _ => d ≤ w.drawn
 | .watch _ w _ => d ≤ w.drawn
 | .ended _ _ _ => True
theorem gup_after {d : Nat} {es : Array Event} {s : GStep} (h : GUp d s) : GUp d (s.after es) := by cases s <;> exact h
theorem gup_ite {d : Nat} {c : Prop} [Decidable c] {a b : GStep} (ha : GUp d a) (hb : GUp d b) : GUp d (if c then a else b) := by
 split
 ·exact ha
 ·exact hb
theorem gup_go {d : Nat} {s : GStep} {g : Goroutine} {w : World} {es : Array Event} (e : s = .go g w es) (h : GUp d s) : d ≤ w.drawn := by rw [e] at h; exact h
section
variable {p : Program} {main : Bool} {fr : Frame} {callers : List Frame} {dying : Option Dying} {w : World} {d : Nat} (h : d ≤ w.drawn)
include h
theorem dieOf_up {ahead : List ByteArray} {m : String} {whole : Bool} : GUp d (dieOf fr ahead m whole w) := h
theorem endThrow_up {m : String} : GUp d (endThrow fr m w) := h
omit h in
theorem endWith_up {fd : Nat} {text : ByteArray} {o : Outcome} : GUp d (endWith w fd text o) := by
 unfold endWith
 dsimp only
 repeat' (first | exact True.intro | split)
theorem endPrinting_up {v : Value} : GUp d (endPrinting p fr v w) := by
 unfold endPrinting
 dsimp only
 split
 ·exact endThrow_up h
 ·exact True.intro
theorem endFatal_up {m : String} : GUp d (endFatal p fr callers dying m w) := by
 unfold endFatal
 dsimp only
 split
 ·exact dieOf_up (run_ok ‹_› h)
 ·exact True.intro
 ·exact True.intro
theorem doReturn_up {v : Value} : GUp d (doReturn p main fr callers dying v w) := by
 unfold doReturn
 dsimp only
 repeat' (first | exact h | exact True.intro | split)
theorem callDeferred_up {df : Deferred} : GUp d (callDeferred p fr callers dying df w) := by
 unfold callDeferred
 refine gup_ite True.intro ?_
 ·have hr := runT_up p (invoke df.target df.args) w #[] h
  generalize (invoke df.target df.args).runT p w #[] = x at *
  obtain ⟨r, es⟩ := x
  dsimp only at hr ⊢
  apply gup_after
  cases r with
  | ok n w1 =>
    have h1 : d ≤ w1.drawn := hr
    cases n <;> (try dsimp only) <;> repeat' (first | exact h1 | exact True.intro | (cases ‹Result.ok _ _ = _›; first | done | exact h1 | exact True.intro) | split)
  | halt hh w1 =>
    have h1 : d ≤ w1.drawn := hr
    cases hh <;> first | exact h1 | exact True.intro | exact endFatal_up h1
theorem unwind_up : GUp d (unwind p main fr callers dying w) := by
 unfold unwind
 split
 ·rename_i block _ ds _
  have hr := runT_up p (Instr.takeDeferred block) w #[] h
  generalize (Instr.takeDeferred block).runT p w #[] = x at *
  obtain ⟨r, es⟩ := x
  dsimp only at hr ⊢
  apply gup_after
  cases r with
  | ok n w1 => exact hr
  | halt hh w1 => exact True.intro
 ·exact callDeferred_up h
 ·split
  ·exact True.intro
  ·split
   ·exact True.intro
   ·split
    ·exact h
    ·split
     ·split
      ·exact h
      ·split
       ·exact (run_ok ‹_› h : d ≤ _)
       ·exact True.intro
       ·exact True.intro
     ·split
      ·exact endPrinting_up h
      ·exact True.intro
  ·split
   ·exact doReturn_up h
   ·rename_i fn _
    have hr := runT_up p (results fn fr.tmps) w #[] h
    generalize (results fn fr.tmps).runT p w #[] = x at *
    obtain ⟨r, es⟩ := x
    dsimp only at hr ⊢
    apply gup_after
    cases r with
    | ok n w1 => exact doReturn_up hr
    | halt hh w1 => cases hh <;> exact True.intro
theorem early_up {g : Nat} : GUp d (early p fr callers dying g w) := by
 have hn : ∀ w1 : World, d ≤ w1.drawn → GUp d (match w1.heap[g]? with
  | some (.pending c elem) =>
    GStep.go { frame := fr, callers, status := .running, dying } { w1 with heap := w1.heap.setIfInBounds g (.cells c elem) }
  | _ => .ended (.stuck "early: the variable does not wait" (fr.pos p)) w1) := fun w1 h1 => by
  split
  ·exact h1
  ·exact True.intro
 unfold early
 dsimp only
 repeat' (first | exact h | exact True.intro | exact hn _ h | exact hn _ (run_ok ‹_› h) | exact (run_ok ‹_› h : d ≤ _) | split)
theorem writeOn_up {dd : Dying} {f : Fatal} : GUp d (writeOn p fr dd f w) := by
 unfold writeOn
 dsimp only
 repeat' (first | exact True.intro | exact (runT_ok ‹_› h : d ≤ _) | exact (runT_halt ‹_› h : d ≤ _) | split)
theorem die_up {dd : Dying} : GUp d (die p fr dd w) := by
 unfold die
 split
 ·exact writeOn_up h
 ·split
  ·split
   ·exact h
   ·exact endWith_up
  ·dsimp only
   split
   ·exact h
   ·split
    ·exact (run_ok ‹_› h : d ≤ _)
    ·exact True.intro
   ·rename_i t recv name _
    have hr := runT_up p (invoke (.fn (.method name) #[]) #[.iface t recv]) w #[] h
    generalize (invoke (.fn (.method name) #[]) #[.iface t recv]).runT p w #[] = x at *
    obtain ⟨r, es⟩ := x
    dsimp only at hr ⊢
    apply gup_after
    cases r with
    | ok n w1 =>
      have h1 : d ≤ w1.drawn := hr
      cases n <;> (try dsimp only) <;> repeat' (first | exact h1 | exact True.intro | (cases ‹Result.ok _ _ = _›; first | done | exact h1 | exact True.intro) | split)
    | halt hh w1 =>
      have h1 : d ≤ w1.drawn := hr
      cases hh <;> first | exact endPrinting_up h1 | exact True.intro
   ·exact True.intro
theorem apply_up {listen : Bool} {s : Sem Next} : GUp d (stepG.apply p listen fr callers dying s w) := by
 unfold stepG.apply
 have hx : RUp d (if listen then s.runT p w #[] else (s.run p w, #[])).1 := by
  split
  ·exact runT_up p s w #[] h
  ·exact run_up p s w h
 generalize (if listen then s.runT p w #[] else (s.run p w, #[])) = x at *
 obtain ⟨r, es⟩ := x
 dsimp only at hx ⊢
 apply gup_after
 cases r with
 | ok n w1 =>
   have h1 : d ≤ w1.drawn := hx
   cases n <;> (try dsimp only) <;> repeat' (first | exact h1 | exact True.intro | exact endThrow_up h1 | (cases ‹Result.ok _ _ = _›; first | done | exact h1 | exact True.intro) | split)
 | halt hh w1 =>
   have h1 : d ≤ w1.drawn := hx
   cases hh <;> (try dsimp only) <;> repeat' (first | exact h1 | exact True.intro | exact endThrow_up h1 | exact endFatal_up h1 | exact early_up h1 | (cases ‹Result.halt _ _ = _›; first | done | exact h1 | exact True.intro | exact endThrow_up h1 | exact endFatal_up h1 | exact early_up h1) | split)
theorem oper_up {listen : Bool} : GUp d (stepG.oper p listen fr callers dying w) := by
 unfold stepG.oper
 repeat' (first | exact True.intro | exact apply_up h | split)
end
end Go.Proofs.YtaaeekahhhookaaGreatDoor
namespace Go.Proofs.YtaaeekahhhookaaGreatDoor
open Go Go.RowKit
section
variable {p : Program} {main : Bool} {fr : Frame} {callers : List Frame} {dying : Option Dying} {w : World} {d : Nat} (h : d ≤ w.drawn)
include h
theorem exec_up {listen : Bool} : GUp d (stepG.exec p main listen fr callers dying w) := by
 unfold stepG.exec
 dsimp only
 split
 all_goals repeat' (first
  | exact h | exact True.intro | exact apply_up h | exact oper_up h
  | exact (run_ok ‹_› h : d ≤ _) | exact (runT_ok ‹_› h : d ≤ _) | exact (runT_halt ‹_› h : d ≤ _)
  | exact doReturn_up (runT_fok ‹_› h) | exact apply_up (runT_fok ‹_› h) | exact (runT_fok ‹_› h : d ≤ _) | exact (runT_fhalt ‹_› h : d ≤ _)
  | (refine gup_after ?_) | split
  | (unfold Option.elim; split))
end
theorem stepG_up {p : Program} {main : Bool} {g : Goroutine} {w : World} {listen : Bool} {d : Nat} (h : d ≤ w.drawn) : GUp d (stepG p main g w listen) := by
 unfold stepG
 dsimp only
 split
 ·exact die_up h
 ·exact exec_up h
 ·exact unwind_up h
def SUp (d : Nat) : Stepped → Prop
 | .next m => d ≤ m.world.drawn
 | .ended _ _ => True
def MUp (d : Nat) : Move → Prop
 | .goroutine m _ => d ≤ m.world.drawn
 | .machine s _ => SUp d s
theorem waitingAt_same {rest : Rest} {cases : Array CommCase} {w w' : World} (e : waitingAt rest cases w = some w') : w'.drawn = w.drawn := by
 unfold waitingAt at e
 split at e
 ·split at e
  ·cases e; rfl
  ·cases e
 ·cases e; rfl
theorem drain_same (w : World) (c : Nat) : (drain w c).2.drawn = w.drawn := by unfold drain; split <;> rfl
theorem retime_same (m : Machine) (k : Nat) (t : Timer) (a b : Nat) : (retime m k t a b).2.world.drawn = m.world.drawn := by
 unfold retime
 split
 rename_i had w1 heq
 split at heq
 ·rename_i c _
  have := drain_same m.world c
  rw [heq] at this
  exact this
 ·cases heq
  rfl
theorem named_same {m : Machine} {var : Addr} {f : Nat → Timer → Value × Machine} {d : Nat} (hf : ∀ k t, (f k t).2.world.drawn = d) : EOk (fun r : Value × Machine => r.2.world.drawn = d) (timerOp.named m var f) := by
 unfold timerOp.named
 split
 ·exact EOk.pure (hf _ _)
 ·exact EOk.err _
theorem opened_same {m m' : Machine} {var : Addr} (e : timerOp.opened m var = some m') : m'.world.drawn = m.world.drawn := by
 unfold timerOp.opened at e
 split at e
 ·split at e
  ·cases e; rfl
  ·cases e
 ·cases e; rfl
theorem timerOp_same (m : Machine) (op : TimerOp) : EOk (fun r : Value × Machine => r.2.world.drawn = m.world.drawn) (timerOp m op) := by
 unfold timerOp
 split
 ·split
  ·exact EOk.pure rfl
  ·split
   ·split
    ·exact EOk.err _
    ·exact EOk.pure rfl
   ·exact EOk.err _
 ·exact named_same fun k t => retime_same _ _ _ _ _
 ·split
  ·rename_i heq
   exact named_same fun k t => (retime_same _ _ _ _ _).trans (opened_same heq)
  ·exact EOk.err _
 ·exact EOk.pure rfl
section
variable {p : Program} {gs : Array Goroutine} {rest : Rest} {w : World} {d : Nat} (h : d ≤ w.drawn)
include h
theorem look_up : SUp d (look p gs rest w) := by
 unfold look
 split
 ·dsimp only
  repeat' (first | exact True.intro | exact (run_ok ‹_› h : d ≤ _) | split)
 ·exact True.intro
theorem communicate_up {i : Nat} {g : Goroutine} {cases : Array CommCase} {blocking : Bool} {shape : CommShape} : SUp d (communicate p rest gs i g cases blocking shape w).1 := by
 unfold communicate
 dsimp only
 repeat' (first
  | exact True.intro | exact h
  | (rename_i heq; exact (show d ≤ _ by rw [waitingAt_same heq]; exact h))
  | exact (run_ok ‹_› h : d ≤ _) | exact (run_halt ‹_› (run_ok ‹_› h) : d ≤ _) | exact (run_ok ‹_› (run_ok ‹_› h) : d ≤ _)
  | split)
end
theorem serve_up {p : Program} {m : Machine} {k : Nat} {d : Nat} (h : d ≤ m.world.drawn) : SUp d (serve p m k) := by
 unfold serve
 dsimp only
 repeat' (first | exact True.intro | exact h | split)
theorem mrunT_up {p : Program} {m : Machine} {i : Nat} {listen : Bool} {d : Nat} (h : d ≤ m.world.drawn) : SUp d (Go.runT p m i listen).1 := by
 unfold Go.runT
 dsimp only
 generalize (m.gs.swapAt! i { (default : Goroutine) with status := .finished }) = y
 obtain ⟨g, gs⟩ := y
 dsimp only
 have hs : GUp d (stepG p (i == 0) g m.world listen) := stepG_up h
 generalize stepG p (i == 0) g m.world listen = s at *
 cases s with
 | ended o w es => exact True.intro
 | comm g1 cases blocking shape w es => exact communicate_up hs
 | go g1 w es => exact hs
 | spawn g1 child w es => exact hs
 | count g1 w es =>
   dsimp only
   split
   ·exact True.intro
   ·exact hs
 | alone g1 on w es => exact hs
 | collect g1 w es => exact look_up hs
 | watch g1 w es => exact hs
 | newcoro g1 c dd w es => exact hs
 | coroswitch g1 c exit w es =>
   dsimp only
   repeat' (first | exact hs | exact True.intro | exact (gup_go ‹_› (endThrow_up hs) : d ≤ _) | split)
 | timer g1 op w es =>
   dsimp only
   split
   ·rename_i heq
    exact (show d ≤ _ by rw [timerOp_same _ _ _ heq]; exact hs)
   ·repeat' (first | exact hs | exact True.intro | exact (gup_go ‹_› (endThrow_up hs) : d ≤ _) | split)
   ·exact True.intro
   ·exact True.intro
theorem adv_up {m : Machine} {t d : Nat} (h : d ≤ m.world.drawn) : d ≤ (m.advanceTo t).world.drawn := h
section
variable {p : Program} {m : Machine} {d : Nat} (h : d ≤ m.world.drawn)
include h
theorem askOn_up : MUp d (askOn p m) := by
 unfold askOn
 dsimp only
 repeat' (first
  | exact True.intro | exact h
  | exact serve_up (run_ok ‹_› h)
  | exact (run_ok ‹_› h : d ≤ _)
  | exact (run_ok ‹_› (run_ok ‹_› h) : d ≤ _)
  | exact (run_ok ‹_› (run_ok ‹_› (run_ok ‹_› h)) : d ≤ _)
  | exact (run_ok ‹_› (run_ok ‹_› (run_ok ‹_› (run_ok ‹_› h))) : d ≤ _)
  | exact (run_ok ‹_› (adv_up (run_ok ‹_› (run_ok ‹_› h))) : d ≤ _)
  | exact (run_ok ‹_› (run_ok ‹_› (adv_up (run_ok ‹_› (run_ok ‹_› h)))) : d ≤ _)
  | split)
end
theorem sup_next {d : Nat} {s : Stepped} {m : Machine} (e : s = .next m) (h : SUp d s) : d ≤ m.world.drawn := by rw [e] at h; exact h
section
variable {p : Program} {m : Machine} {d : Nat} (h : d ≤ m.world.drawn)
include h
theorem ask_mup : MUp d (ask p m) := by
 unfold ask
 split
 ·split
  ·exact True.intro
  ·rename_i world heq
   have hl := look_up (p := p) (gs := m.gs) (rest := m.rest) (run_ok heq h)
   generalize look p m.gs m.rest world = y at *
   cases y with
   | next m1 => exact askOn_up hl
   | ended o w1 => exact True.intro
  ·exact askOn_up (run_ok ‹_› h)
 ·exact askOn_up h
theorem move_up : MUp d (move p m) := by
 unfold move
 repeat' (first | exact h | exact True.intro | exact ask_mup h | split)
theorem stepT_up {listen : Bool} : SUp d (stepT p m listen).1 := by
 have hm := move_up (p := p) h
 unfold stepT
 generalize move p m = x at *
 cases x with
 | goroutine m1 i => exact mrunT_up hm
 | machine s ops => exact hm
end
theorem runN_up {p : Program} : ∀ (n : Nat) {m : Machine} {d : Nat}, d ≤ m.world.drawn → SUp d (runN p n m)
 | 0, m, d, h => h
 | n + 1, m, d, h => by
   have hs : SUp d (step p m) := stepT_up h
   unfold runN
   split
   ·exact runN_up n (sup_next ‹_› hs)
   ·exact hs
theorem steps_up {p : Program} {m m' : Machine} (h : Steps p m m') : m.world.drawn ≤ m'.world.drawn := by
 obtain ⟨n, hn⟩ := h
 exact sup_next hn (runN_up n (Nat.le_refl _))
theorem calls_up {P : Program} {f : FuncId} {args : Array Value} {w : World} {R : Ending → World → Prop} (h : Calls P f args w R) : Calls P f args w fun e w' => R e w' ∧ (e ≠ .outgrown → w.drawn ≤ w'.drawn) := by
 intro cs
 obtain ⟨e, w', fr, hR, hC, hf⟩ := h cs
 refine ⟨e, w', fr, ⟨hR, fun hne => ?_⟩, hC, hf⟩
 cases e with
 | returned v => exact steps_up hC
 | panicked c => exact steps_up hC
 | outgrown => exact absurd rfl hne
end Go.Proofs.YtaaeekahhhookaaGreatDoor
