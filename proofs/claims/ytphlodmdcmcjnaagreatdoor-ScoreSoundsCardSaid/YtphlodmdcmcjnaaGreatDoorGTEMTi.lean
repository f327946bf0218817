/- slices.Grow, slices.Concat of one row, interval.open. fraction.New, Of; prime.Factor, Smooth; target.number. interval.sizes, interval.floor. interval.equaves, Reduce, Inverse. Lists of rows; target.once's contract as a word; target.between up to it. -/
import Derived.Test.YtphlodmdcmcjnaaGreatDoorGTCMTi
import Derived.Test.YtphlodmdcmcjnaaGreatDoorGBTi
import Derived.Test.YtphlodmdcmcjnaaGreatDoorGGMTi
import Derived.Laws.AppendOwnNone
import Derived.Test.YtphlodmdcmcjnaaGreatDoorFSgMTi
import Derived.Test.YtphlodmdcmcjnaaGreatDoorGTBTi
import Derived.Maps.AppendAt
namespace Go.Proofs.YtphlodmdcmcjnaaGreatDoor
open Go.RowKit Go.Lib

theorem Tryz.info_row : (Tryz.prog.info? 66).map (fun i => (i.zero, i.size, i.bytes)) = some (some (.slice Option.none 0 0), 1, 24) := by kernel_rfl

end Go.Proofs.YtphlodmdcmcjnaaGreatDoor

namespace Go.Proofs.YtphlodmdcmcjnaaGreatDoor
open Go.RowKit Go.Lib

set_option maxHeartbeats 1000000 in
theorem fracNew_any (n d : Int) (w : World) (hS : Std w) (hn : (itoa n).length ≤ 50000) (hd : (itoa d).length ≤ 50000) (hd0 : 0 < d) :
    Calls Tryz.prog 100 #[.string ⟨(itoa n).toArray⟩, .string ⟨(itoa d).toArray⟩] w fun e w' => e = .returned (.tuple #[.agg #[.string ⟨(itoa (lowN n d)).toArray⟩, .string ⟨(itoa (lowD n d)).toArray⟩], .int .i64 0]) ∧ Below w.heap.size w w' := by
  have HSG := Lib.hid (fun W => whSign_any d W (by omega))
  have hsg : sgn d = 1 := by unfold sgn; rw [if_neg (by omega), if_neg (by omega)]
  rw [hsg] at HSG
  have HL := Lib.hid (fun W hW => lowest_any n d W hW hn hd hd0)
  have HS := Lib.hid hS
  have hba : Below w.heap.size w (w.alloc (.cells #[.string ⟨#[]⟩, .string ⟨#[]⟩] 55)) := (Below.refl _ _).alloc (Nat.le_refl _) _
  have HBA := Lib.hid hba
  have HNC := Lib.hid (Cells.new w 55 #[.string ⟨#[]⟩, .string ⟨#[]⟩])
  clear hS hn hd hd0 hsg hba
  generalize lowN n d = ln at *
  generalize lowD n d = ld at *
  go_enter Tryz.func100, Tryz.ntmps100
  go_wp2_with fail
  refine (HSG.out _).mono ?_
  rintro e w1 ⟨rfl, hw⟩
  have hb1 : Below (w.alloc (.cells #[.string ⟨#[]⟩, .string ⟨#[]⟩] 55)).heap.size (w.alloc (.cells #[.string ⟨#[]⟩, .string ⟨#[]⟩] 55)) w1 := (by rw [← hw]; exact Below.refl _ _)
  have HB1 := Lib.hid (HBA.out.trans (hb1.mono HBA.out.size))
  have HC1 := Lib.hid (HNC.out.below hb1 HNC.out.lt)
  clear hw hb1
  go_wp2_with fail
  refine (HL.out _ (HS.out.below HB1.out (Nat.le_refl _))).mono ?_
  rintro e w2 ⟨rfl, hb2⟩
  have HB2 := Lib.hid (HB1.out.trans (hb2.mono HB1.out.size))
  have hc := HC1.out.below hb2 HC1.out.lt
  have z0 := hc.cell 0
  have z1 := hc.cell 1
  have y0 := hc.free 0
  have y1 := hc.free 1
  simp at z0 z1
  clear hb2 hc
  go_wp2_with fail
  refine bodyPost_ret (v := .tuple #[.agg #[.string ⟨(itoa ln).toArray⟩, .string ⟨(itoa ld).toArray⟩], .int .i64 0]) (by simp (maxDischargeDepth := 10) [results, Tryz.results100, go_sem, z0, z1]) rfl ⟨rfl, ?_⟩
  exact (HB2.out.setCell (Nat.le_refl _) _).setCell (Nat.le_refl _) _

set_option maxHeartbeats 1000000 in
theorem fracOf_any (n d : Int) (w : World) (hS : Std w) (hn : n.natAbs ≤ 1000000000000000000) (hd : d.natAbs ≤ 1000000000000000000) (hd0 : 0 < d) :
    Calls Tryz.prog 46 #[.int .i64 n, .int .i64 d] w fun e w' => e = .returned (.tuple #[.agg #[.string ⟨(itoa (lowN n d)).toArray⟩, .string ⟨(itoa (lowD n d)).toArray⟩], .int .i64 0]) ∧ Below w.heap.size w w' := by
  have hlen : ∀ z : Int, z.natAbs ≤ 1000000000000000000 → (itoa z).length ≤ 50000 := fun z hz => by
    have h := itoa_len z
    have h2 : (decDigits z.natAbs).length ≤ 19 := by rw [dec_length]; exact nDigits_le (by omega) (by omega)
    omega
  have HN := Lib.hid (fun W hW => whOf_any n W (by omega) (by omega) hW)
  have HD := Lib.hid (fun W hW => whOf_any d W (by omega) (by omega) hW)
  have HW := Lib.hid (fun W hW => fracNew_any n d W hW (hlen n hn) (hlen d hd) hd0)
  have HS := Lib.hid hS
  have hba : Below w.heap.size w (w.alloc (.cells #[.string ⟨#[]⟩, .string ⟨#[]⟩] 55)) := (Below.refl _ _).alloc (Nat.le_refl _) _
  have HBA := Lib.hid hba
  have HNC := Lib.hid (Cells.new w 55 #[.string ⟨#[]⟩, .string ⟨#[]⟩])
  clear hS hn hd hd0 hlen hba
  generalize lowN n d = ln at *
  generalize lowD n d = ld at *
  go_enter Tryz.func46, Tryz.ntmps46
  go_wp2_with fail
  refine (HN.out _ (HS.out.below HBA.out (Nat.le_refl _))).mono ?_
  rintro e w1 ⟨rfl, hb1⟩
  have HB1 := Lib.hid (HBA.out.trans (hb1.mono HBA.out.size))
  have HC1 := Lib.hid (HNC.out.below hb1 HNC.out.lt)
  clear hb1
  go_wp2_with fail
  refine (HD.out _ (HS.out.below HB1.out (Nat.le_refl _))).mono ?_
  rintro e w2 ⟨rfl, hb2⟩
  have HB2 := Lib.hid (HB1.out.trans (hb2.mono HB1.out.size))
  have HC2 := Lib.hid (HC1.out.below hb2 HC1.out.lt)
  clear hb2
  go_wp2_with fail
  refine (HW.out _ (HS.out.below HB2.out (Nat.le_refl _))).mono ?_
  rintro e w3 ⟨rfl, hb3⟩
  have HB3 := Lib.hid (HB2.out.trans (hb3.mono HB2.out.size))
  have hc := HC2.out.below hb3 HC2.out.lt
  have z0 := hc.cell 0
  have z1 := hc.cell 1
  have y0 := hc.free 0
  have y1 := hc.free 1
  simp at z0 z1
  clear hb3 hc
  go_wp2_with fail
  refine bodyPost_ret (v := .tuple #[.agg #[.string ⟨(itoa ln).toArray⟩, .string ⟨(itoa ld).toArray⟩], .int .i64 0]) (by simp (maxDischargeDepth := 10) [results, Tryz.results46, go_sem, z0, z1]) rfl ⟨rfl, ?_⟩
  exact (HB3.out.setCell (Nat.le_refl _) _).setCell (Nat.le_refl _) _

end Go.Proofs.YtphlodmdcmcjnaaGreatDoor

namespace Go.Proofs.YtphlodmdcmcjnaaGreatDoor
open Go.RowKit Go.Lib

theorem SzAt.grown {w w' : World} {B : Nat} {v : Value} {x : List Int} {base n s : Nat} {e : TypeId} {v2 : Value} {xs : List Value} (h : SzAt w B v x) (ho : w.ownsRow base e s v2 n xs) (hne : e ≠ 55) (hg : w.grownBy w' v2.ownBlock) : SzAt w' B v x := by
  obtain ⟨g, rfl, hB, hc⟩ := h
  exact ⟨g, rfl, hB, hc.grown hg (own_ne_cells ho hc hne)⟩
theorem SzAt.below {w w' : World} {B : Nat} {v : Value} {x : List Int} (h : SzAt w B v x) (hb : Below w.heap.size w w') : SzAt w' B v x := by
  obtain ⟨g, rfl, hB, hc⟩ := h
  exact ⟨g, rfl, hB, hc.below hb hc.lt⟩
theorem SzAt.alloc {w : World} {B : Nat} {v : Value} {x : List Int} (h : SzAt w B v x) (o : Obj) : SzAt (w.alloc o) B v x := h.below ((Below.refl _ _).alloc (Nat.le_refl _) _)

end Go.Proofs.YtphlodmdcmcjnaaGreatDoor

namespace Go.Proofs.YtphlodmdcmcjnaaGreatDoor
open Go.RowKit Go.Lib

/-- An interval with a number of equaves more. -/
def addE (x : List Int) (n : Int) : List Int := x.set 0 (x[0]?.getD 0 + n)
/-- What Reduce needs: right rows, the floor decided, the result right. -/
structure RedOk (p x : List Int) (n : Nat) (q : Int) : Prop where
  fl : FlOk p x n q
  pe : primeErr p = 0
  cx : chkAll p [x] = 0
  cr : chkAll p [addE x (-q)] = 0
  qs : q.natAbs ≤ 1000000

end Go.Proofs.YtphlodmdcmcjnaaGreatDoor

namespace Go.Proofs.YtphlodmdcmcjnaaGreatDoor
open Go.RowKit Go.Lib

/-- A list of rows, each in a block of its own, in an array that the call owns. -/
def LRow (w : World) (base : Nat) (v : Value) (l : List (List Int)) : Prop :=
  ∃ vs : List Value, w.ownsRow base 66 1 v l.length vs ∧ ∀ (j : Nat) (x : List Int), l[j]? = some x → ∃ u, vs[j]? = some u ∧ ORow w u x
theorem LRow.nil (w : World) (base : Nat) : LRow w base (.slice Option.none 0 0) [] := ⟨[], World.ownsRow_nil _ _ _ _, fun j x h => by simp at h⟩
theorem LRow.below {w w' : World} {base : Nat} {v : Value} {l : List (List Int)} (h : LRow w base v l) (hb : Below w.heap.size w w') : LRow w' base v l := by
  obtain ⟨vs, h1, h2⟩ := h
  exact ⟨vs, own_below h1 hb, fun j x hj => by obtain ⟨u, h3, h4⟩ := h2 j x hj; exact ⟨u, h3, h4.below hb⟩⟩
theorem LRow.own {w : World} {base : Nat} {v : Value} {l : List (List Int)} (h : LRow w base v l) : ∃ vs, w.ownsRow base 66 1 v l.length vs := by
  obtain ⟨vs, h1, _⟩ := h
  exact ⟨vs, h1⟩
theorem LRow.rows {w : World} {base : Nat} {A : Option Addr} {n c : Nat} {l : List (List Int)} (h : LRow w base (.slice A n c) l) : n = l.length ∧ RowsAt w w.heap.size A l := by
  obtain ⟨vs, h1, h2⟩ := h
  obtain ⟨A', c', e, h3, h4, hr⟩ := Row.of_own h1
  cases e
  refine ⟨rfl, ⟨fun k x hx => ?_⟩⟩
  obtain ⟨u, h5, h6⟩ := h2 k x hx
  obtain ⟨ad, e1, h7, h8⟩ := hr.get k u h5
  exact ⟨ad, u, e1, h7, h8, h6.row⟩
theorem LRow.shape {w : World} {base : Nat} {v : Value} {l : List (List Int)} (h : LRow w base v l) : ∃ A c, v = .slice A l.length c := by
  obtain ⟨vs, h1, _⟩ := h
  rcases h1.2 with ⟨rfl, h0⟩ | ⟨g, cap, cur, rfl, _⟩
  · exact ⟨Option.none, 0, by rw [h0]⟩
  · exact ⟨_, _, rfl⟩
theorem RowsAt.lift {w w' : World} {A : Option Addr} {l : List (List Int)} (h : RowsAt w w.heap.size A l) (hb : Below w.heap.size w w') : RowsAt w' w'.heap.size A l :=
  ⟨fun k x hx => by
    obtain ⟨ad, v, e, h1, h2, h3⟩ := h.get k x hx
    exact ⟨ad, v, e, Nat.lt_of_lt_of_le h1 hb.size, (hb.cell (p := ad.add k) (by rw [add_block]; exact h1)).trans h2, h3.lift hb⟩⟩

end Go.Proofs.YtphlodmdcmcjnaaGreatDoor
