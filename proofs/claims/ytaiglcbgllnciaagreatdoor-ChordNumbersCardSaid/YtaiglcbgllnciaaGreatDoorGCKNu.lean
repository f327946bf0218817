/- schismalaw39.sorted and closed: lists whose rows lie in blocks of their own. schismalaw39.Make: plain, and the walk. -/
import Derived.Test.YtaiglcbgllnciaaGreatDoorGCJNu
import Derived.Test.YtaiglcbgllnciaaGreatDoorGCDNu
import Derived.Test.YtaiglcbgllnciaaGreatDoorGCANu
import Derived.Test.YtaiglcbgllnciaaGreatDoorGTINu
namespace Go.Proofs.YtaiglcbgllnciaaGreatDoor
open Go.RowKit Go.Lib

set_option maxRecDepth 100000 in
set_option maxHeartbeats 1000000 in
theorem clone_lrow (base g0 c0 : Nat) (vs : List Value) (l : List (List Int)) (w : World) (h : w.ownsRow base 41 1 (.slice (some ⟨g0, 0, Option.none⟩) l.length c0) l.length vs) (hv : ∀ (j : Nat) (x : List Int), l[j]? = some x → ∃ u, vs[j]? = some u ∧ ORow w u x) (h0 : 0 < l.length) (hx : l.length ≤ 1000) :
    Calls Tryz.prog 67 #[.slice (some ⟨g0, 0, Option.none⟩) l.length c0] w fun e w' => (∃ g c, e = .returned (.slice (some ⟨g, 0, Option.none⟩) l.length c) ∧ w'.ownsRow w.heap.size 41 1 (.slice (some ⟨g, 0, Option.none⟩) l.length c) l.length vs) ∧ Below w.heap.size w w' := by
  obtain ⟨i0, hi0, hz0, hz1, hz2⟩ := info_parts Tryz.info_row
  have hvl : vs.length = l.length := by have := h.1; omega
  have hE := fun W => Lib.run_eql_slice_nil (P := Tryz.prog) W 30 41 (some ⟨g0, 0, Option.none⟩) l.length c0 0 0 Tryz.underlying30
  have hcells : ∀ (j : Nat) u, vs[j]? = some u → (w.alloc (.cells #[] 41)).cell? (Addr.add ⟨g0, 0, Option.none⟩ j) = some u := fun j u hu => by
    have hj := (List.getElem?_eq_some_iff.1 hu).1
    rw [Lib.add_plain, Nat.zero_add]
    exact keep_cell ((h.cellAt j (by omega)).trans hu) ((Below.refl w.heap.size w).alloc (Nat.le_refl _) _)
  have hone : ∀ u ∈ vs, ∃ A n c, u = .slice A n c := fun u hu => by
    obtain ⟨j, hj, rfl⟩ := List.getElem_of_mem hu
    obtain ⟨t, h1, h2⟩ := hv j l[j] (List.getElem?_eq_getElem (by omega))
    rw [List.getElem?_eq_getElem hj] at h1
    cases h1
    obtain ⟨A, c, e⟩ := h2.shape
    exact ⟨A, _, c, e⟩
  have hown : (w.alloc (.cells #[] 41)).ownsRow w.heap.size 41 1 (.slice (some ⟨w.heap.size, 0, Option.none⟩) 0 0) 0 [] := Cells.own (k := 0) (Cells.new w 41 #[]) (Nat.le_refl _) rfl (Nat.zero_le _) (Nat.le_refl _)
  have HO := Lib.hid hown
  have HC := Lib.hid hcells
  have H0 : Box (0 < l.length) := ⟨h0⟩
  have HSL := Lib.hid hone
  have HVL := Lib.hid hvl
  clear hown hcells h h0 hv hone hvl
  go_enter Tryz.func67, Tryz.ntmps67
  go_wp2_with (at_builtin; refine wpList_append_own _ rfl _ _ _ rfl w.heap.size 41 i0 (.slice Option.none 0 0) 1 24 Tryz.underlying30 hi0 hz0 hz1 hz2 rfl (by decide) _ _ _ rfl HO.out ⟨g0, 0, Option.none⟩ l.length c0 vs rfl (by rw [HVL.out, Nat.mul_one]) HC.out (by intro u hu; obtain ⟨A1, n1, c1, rfl⟩ := HSL.out u hu; rfl) (by unfold maxLen; omega) (by omega) (by simp) ?_; intro v3 w3 hown3 hg3 _)
  rw [List.nil_append, Nat.zero_add] at hown3
  have hbw : Below w.heap.size w w3 := ((Below.refl w.heap.size w).alloc (Nat.le_refl _) (.cells #[] 41)).grown hg3 (by simp) (fun k hk => (HO.out.lt k hk).1)
  have hsh : ∃ g c, v3 = .slice (some ⟨g, 0, Option.none⟩) l.length c := by
    rcases hown3.2 with ⟨_, h⟩ | ⟨g, cap, cur, hv, _⟩
    · have := H0.out; omega
    · exact ⟨g, cap, hv⟩
  obtain ⟨g, c3, rfl⟩ := hsh
  go_wp2_with fail
  go_ret
  exact ⟨⟨_, _, rfl, hown3⟩, hbw⟩

set_option maxRecDepth 100000 in
set_option maxHeartbeats 4000000 in
theorem lwSortedO (pv v : Value) (p : List Int) (base : Nat) (l : List (List Int)) (w : World) (hS : Std w) (hpv : IsRow w w.heap.size pv p) (hpe : primeErr p = 0) (hl : LRow w base v l) (hc : ∀ x ∈ l, chkAll p [x] = 0) (h0 : 0 < l.length) (hn : l.length ≤ 1000) :
    Calls Tryz.prog 31 #[pv, v] w fun e w' => (∃ v', e = .returned v' ∧ LRow w' w.heap.size v' (onceL p l)) ∧ Below w.heap.size w w' := by
  obtain ⟨w1, hw1⟩ : ∃ w1, w1 = w.alloc (.cells #[pv] 29) := ⟨_, rfl⟩
  have hb1 : Below w.heap.size w w1 := by rw [hw1]; exact (Below.refl _ _).alloc (Nat.le_refl _) _
  have hsz : w1.heap.size = w.heap.size + 1 := by rw [hw1, World.size_alloc]
  have hcb : Cells w1 w.heap.size 29 [pv] := by rw [hw1]; exact Cells.new w 29 #[pv]
  have HS1 := Lib.hid (hS.below hb1 (Nat.le_refl _))
  have HP1 := Lib.hid (hpv.lift hb1)
  obtain ⟨vs, hown0, hvs0⟩ := hl.below hb1
  obtain ⟨g0, c0, rfl⟩ : ∃ g c, v = .slice (some ⟨g, 0, Option.none⟩) l.length c := by
    rcases hown0.2 with ⟨_, h⟩ | ⟨g, cap, cur, hv, _⟩
    · omega
    · exact ⟨g, cap, hv⟩
  have HC1 := Lib.hid (clone_lrow base g0 c0 vs l w1 hown0 hvs0 h0 hn)
  have HVS : Box (∀ (j : Nat) (x : List Int), l[j]? = some x → ∃ u, vs[j]? = some u ∧ ORow w1 u x) := ⟨hvs0⟩
  have HSRV : Box (SRows w1 p vs l) := ⟨fun j hj => by
    obtain ⟨u, h1, h2⟩ := hvs0 j l[j] (List.getElem?_eq_getElem hj)
    exact ⟨⟨(u, l[j]), h2.row, hc _ (List.getElem_mem hj)⟩, h1, List.getElem?_eq_getElem hj⟩⟩
  have HB1 := Lib.hid hb1
  have HCB := Lib.hid hcb
  have HSZ := Lib.hid hsz
  have HPE := Lib.hid hpe
  have HCK : Box (∀ x ∈ l, chkAll p [x] = 0) := ⟨hc⟩
  have HL0 : Box (0 < l.length) := ⟨h0⟩
  obtain ⟨AP, cp, rfl⟩ := hpv.shape
  clear hS hpv hpe hl hc h0 hb1 hcb hsz hown0 hvs0
  go_enter Tryz.func31, Tryz.ntmps31
  go_wp2_with fail
  rw [← hw1]
  clear hw1
  refine HC1.out.mono ?_
  rintro e w2 ⟨⟨g, c2, rfl, hown⟩, hb2⟩
  have hgl := (hown.lt g rfl).1
  have HSO := Lib.hid (csWRowsP _ p (primed HPE.out) g c2 w.heap.size vs l HS1.out hb2 hgl HP1.out (keep_cell (HCB.out.cell 0) hb2) (by have := HSZ.out; omega) HL0.out hn hown HSRV.out)
  clear hown hb2 HC1
  go_wp2_with fail
  refine HSO.out.mono ?_
  rintro e w3 ⟨rfl, ⟨l', vs', hl1, hl2, hl3, hown3, hsr3, hpr3⟩, hb3⟩
  have HDD := Lib.hid (dedup_once (primed HPE.out) (fun x hx => (right_of (HCK.out x hx)).len) hl2 (by rw [hl1]; exact hl3))
  rw [← hl1] at hown3
  have HCO := Lib.hid (compactWP g c2 vs' p l' w1 w3 hb3 hown3 hsr3 (by omega))
  have HL1 := Lib.hid hl1
  have HPR := Lib.hid hpr3
  clear hl2 hl3 hown3 hsr3 hb3 HSO hl1 hpr3
  rw [← HL1.out]
  go_wp2_with fail
  refine HCO.out.mono ?_
  rintro e w4 ⟨⟨vs4, rfl, hown4, hsr4, hpr4⟩, hb4⟩
  rw [HDD.out] at hown4 hsr4 hpr4 ⊢
  generalize hds : onceL p l = ds at *
  have HDS := Lib.hid hds
  clear hds
  have HR4 : Box (LRow w4 w1.heap.size (.slice (some ⟨g, 0, Option.none⟩) ds.length c2) ds) := ⟨⟨vs4, hown4, fun j x hj => by
    obtain ⟨u, y, a1, b1, _, _⟩ := hsr4.len (List.getElem?_eq_some_iff.1 hj).1
    rw [hj] at b1
    cases b1
    obtain ⟨i, q1, q2⟩ := hpr4 j u x a1 hj
    obtain ⟨i2, q3, q4⟩ := HPR.out i u x q1 q2
    obtain ⟨u2, q5, q6⟩ := HVS.out i2 x q4
    rw [q3] at q5
    cases q5
    exact ⟨u, a1, q6.below hb4⟩⟩⟩
  have HB4 := Lib.hid (HB1.out.trans (hb4.mono HB1.out.size))
  clear hown4 hsr4 hb4 HCO HDD hpr4
  go_wp2_with fail
  go_ret
  rw [HDS.out]
  exact ⟨⟨_, rfl, HR4.out.base (by have := HSZ.out; omega)⟩, HB4.out⟩

end Go.Proofs.YtaiglcbgllnciaaGreatDoor

namespace Go.Proofs.YtaiglcbgllnciaaGreatDoor
open Go.RowKit Go.Lib

/-- The cells of a world: two numbers and eighteen small ones. -/
def WCells (n m : Nat) (r : List Int) (cs : Array Value) : Prop := cs.toList = .int .u8 n :: .int .u8 m :: r.map fun z => Value.int .i8 z
/-- Row i of a world, over k primes. -/
def wRow (r : List Int) (i k : Nat) : List Int := (List.range k).map fun j => (r[i * 3 + j]?.getD 0).tmod 7
def wRows (r : List Int) (k m : Nat) : List (List Int) := (List.range (1 + m % 6)).map fun i => wRow r i k
theorem wRow_len (r : List Int) (i k : Nat) : (wRow r i k).length = k := by unfold wRow; rw [List.length_map, List.length_range]
theorem wRow_next (r : List Int) (i k : Nat) : wRow r i (k + 1) = wRow r i k ++ [(r[i * 3 + k]?.getD 0).tmod 7] := by
  unfold wRow
  rw [List.range_succ, List.map_append]
  rfl
def wTo (r : List Int) (k i : Nat) : List (List Int) := (List.range i).map fun j => wRow r j k
theorem wTo_len (r : List Int) (k i : Nat) : (wTo r k i).length = i := by unfold wTo; rw [List.length_map, List.length_range]
theorem wTo_next (r : List Int) (k i : Nat) : wTo r k (i + 1) = wTo r k i ++ [wRow r i k] := by
  unfold wTo
  rw [List.range_succ, List.map_append]
  rfl
theorem tmod7 (z : Int) : -6 ≤ z.tmod 7 ∧ z.tmod 7 ≤ 6 := by
  have h : (z.tmod 7).natAbs = z.natAbs % 7 := by rw [Int.natAbs_tmod]; rfl
  have h2 : z.natAbs % 7 < 7 := Nat.mod_lt _ (by omega)
  generalize z.tmod 7 = t at *
  omega
theorem wRow_get (r : List Int) (i k j : Nat) : ((wRow r i k)[j]?.getD 0).natAbs ≤ 6 := by
  unfold wRow
  rw [List.getElem?_map]
  cases h : (List.range k)[j]? with
  | none => simp
  | some v =>
    have := tmod7 (r[i * 3 + v]?.getD 0)
    simp
    omega
theorem chPrimes_len (n : Nat) : 2 ≤ (chPrimes n).length ∧ (chPrimes n).length ≤ 3 := by
  unfold chPrimes
  have h : n % 3 < 3 := Nat.mod_lt _ (by omega)
  generalize n % 3 = k at *
  match k, h with
  | 0, _ => decide
  | 1, _ => decide
  | 2, _ => decide
/-- The chord of a world. -/
def wChord (n m : Nat) (r : List Int) : List (List Int) := onceL (chPrimes n) (wRows r (chPrimes n).length m)
/-- What Make returns. -/
def MkPost (n m : Nat) (r : List Int) (e : Ending) (w' : World) (base : Nat) : Prop := ∃ pv v, e = .returned (.tuple #[pv, v]) ∧ IsRow w' w'.heap.size pv (chPrimes n) ∧ LRow w' base v (wChord n m r)

/-- The world behind Make's first statement. -/
def mkW (w : World) (cs : Array Value) : World := ((((w.alloc (.cells cs 26)).alloc (.cells #[.int .i64 2, .int .i64 3, .int .i64 5] 3)).alloc (.cells #[.int .i64 2, .int .i64 3] 3)).alloc (.cells #[.int .i64 2, .int .i64 3, .int .i64 7] 3)).alloc (.cells #[.slice (some ⟨w.heap.size + 1, 0, Option.none⟩) 3 3, .slice (some ⟨w.heap.size + 1 + 1, 0, Option.none⟩) 2 2, .slice (some ⟨w.heap.size + 1 + 1 + 1, 0, Option.none⟩) 3 3] 29)
theorem mkW_size (w : World) (cs : Array Value) : (mkW w cs).heap.size = w.heap.size + 5 := by unfold mkW; simp
theorem mkW_below (w : World) (cs : Array Value) : Below w.heap.size w (mkW w cs) := by
  unfold mkW
  exact (((((Below.refl _ _).alloc (Nat.le_refl _) _).alloc (by simp) _).alloc (by simp; omega) _).alloc (by simp; omega) _).alloc (by simp; omega) _
theorem mkW_cells (w : World) (cs : Array Value) : Cells (mkW w cs) w.heap.size 26 cs.toList := by
  have hc := Cells.new w 26 cs
  have hb : Below (w.heap.size + 1) (w.alloc (.cells cs 26)) (mkW w cs) := by
    unfold mkW
    exact ((((Below.refl _ _).alloc (by simp) _).alloc (by simp) _).alloc (by simp) _).alloc (by simp) _
  exact hc.below hb (by omega)
theorem mkW_rows (w : World) (cs : Array Value) : IsRow (mkW w cs) (mkW w cs).heap.size (.slice (some ⟨w.heap.size + 1, 0, Option.none⟩) 3 3) [2, 3, 5] ∧ IsRow (mkW w cs) (mkW w cs).heap.size (.slice (some ⟨w.heap.size + 1 + 1, 0, Option.none⟩) 2 2) [2, 3] ∧ IsRow (mkW w cs) (mkW w cs).heap.size (.slice (some ⟨w.heap.size + 1 + 1 + 1, 0, Option.none⟩) 3 3) [2, 3, 7] := by
  have h1 := isRow_new (w.alloc (.cells cs 26)) 3 [2, 3, 5] #[.int .i64 2, .int .i64 3, .int .i64 5] rfl (by decide) 3 rfl
  have h2 := isRow_new ((w.alloc (.cells cs 26)).alloc (.cells #[.int .i64 2, .int .i64 3, .int .i64 5] 3)) 3 [2, 3] #[.int .i64 2, .int .i64 3] rfl (by decide) 2 rfl
  have h3 := isRow_new (((w.alloc (.cells cs 26)).alloc (.cells #[.int .i64 2, .int .i64 3, .int .i64 5] 3)).alloc (.cells #[.int .i64 2, .int .i64 3] 3)) 3 [2, 3, 7] #[.int .i64 2, .int .i64 3, .int .i64 7] rfl (by decide) 3 rfl
  simp only [World.size_alloc] at h1 h2 h3
  rw [mkW_size]
  unfold mkW
  refine ⟨?_, ?_, ?_⟩
  · exact (((h1.alloc (by simp) _).alloc (by simp) _).alloc (by simp) _).up (by omega)
  · exact ((h2.alloc (by simp) _).alloc (by simp) _).up (by omega)
  · exact (h3.alloc (by simp) _).up (by omega)

set_option maxRecDepth 100000 in
set_option maxHeartbeats 4000000 in
theorem make39_any (n m : Nat) (r : List Int) (cs : Array Value) (w : World) (hcs : WCells n m r cs) (hr : r.length = 18) (hn : n ≤ 255) (hm : m ≤ 255) (hb : ∀ j : Nat, -128 ≤ r[j]?.getD 0 ∧ r[j]?.getD 0 ≤ 127) (hS : Std w) :
    Calls Tryz.prog 8 #[.agg cs] w fun e w' => MkPost n m r e w' w.heap.size ∧ Below w.heap.size w w' := by
  obtain ⟨i0, hi0, hz0, hz1, hz2⟩ := info_parts Tryz.info_int
  have HIW := Lib.hid (info_parts Tryz.info_row)
  have hc := Cells.new w 26 cs
  have HC := Lib.hid hc
  have z0 := hc.cell 0
  have z1 := hc.cell 1
  rw [hcs] at z0 z1
  simp only [List.getElem?_cons_zero, List.getElem?_cons_succ] at z0 z1
  have c0 : cs[0]? = some (.int .u8 n) := by rw [← Array.getElem?_toList, hcs]; rfl
  have c1 : cs[1]? = some (.int .u8 m) := by rw [← Array.getElem?_toList, hcs]; rfl
  have HCS := Lib.hid hcs
  have HRL := Lib.hid hr
  have HRB := Lib.hid hb
  have HS := Lib.hid hS
  clear hcs hr hb hc hS
  have hk : n % 3 = 0 ∨ n % 3 = 1 ∨ n % 3 = 2 := by omega
  rcases hk with hk | hk | hk
  case inl =>
    have hn3 : ((n : Int)) % 3 = 0 := by omega
    have hcp : chPrimes n = [2, 3, 5] := by unfold chPrimes; rw [hk]; rfl
    obtain ⟨W5, hW5⟩ : ∃ W5, W5 = ((((w.alloc (.cells cs 26)).alloc (.cells #[.int .i64 2, .int .i64 3, .int .i64 5] 3)).alloc (.cells #[.int .i64 2, .int .i64 3] 3)).alloc (.cells #[.int .i64 2, .int .i64 3, .int .i64 7] 3)).alloc (.cells #[.slice (some ⟨w.heap.size + 1, 0, Option.none⟩) 3 3, .slice (some ⟨w.heap.size + 1 + 1, 0, Option.none⟩) 2 2, .slice (some ⟨w.heap.size + 1 + 1 + 1, 0, Option.none⟩) 3 3] 29) := ⟨_, rfl⟩
    have hb5 : Below w.heap.size w W5 := by rw [hW5]; exact mkW_below w cs
    have hc5 : Cells W5 w.heap.size 26 cs.toList := by rw [hW5]; exact mkW_cells w cs
    have hp5 : IsRow W5 W5.heap.size (.slice (some ⟨w.heap.size + 1, 0, Option.none⟩) 3 3) [2, 3, 5] := by rw [hW5]; exact (mkW_rows w cs).1
    have HPE : Hid (primeErr [2, 3, 5] = 0) := Lib.hid (by decide +kernel)
    have HB5 := Lib.hid hb5
    have HC5 := Lib.hid hc5
    have HP5 := Lib.hid hp5
    have HWC : Hid (wChord n m r = onceL [2, 3, 5] (wTo r 3 (1 + m % 6))) := Lib.hid (by unfold wChord wRows wTo; rw [hcp]; rfl)
    have HCP := Lib.hid hcp
    clear hb5 hc5 hp5 hcp hk
    go_enter Tryz.func8, Tryz.ntmps8
    go_wp2_with fail
    rw [← hW5]
    clear hW5 z0 z1 c0 c1 hn3
    go_loopw [5, 23] (fun o i wr => ∃ (k : Nat), k ≤ 1 + m % 6 ∧ i = .int .i64 k ∧ LRow wr W5.heap.size o (wTo r 3 k) ∧ Below W5.heap.size W5 wr) (fun _ i _ => 7 - (intOf i).toNat)
    case atStart => exact ⟨0, Nat.zero_le _, rfl, LRow.nil _ _, Below.refl _ _⟩
    case round =>
      obtain ⟨i, hi, rfl, hlr, hbw⟩ := hrel
      by_cases hlt : i < 1 + m % 6
      · have hlti : (i : Int) < 1 + (m : Int) % 6 := by omega
        have hi6 : (i : Int) < 6 := by omega
        have hi00 : (0 : Int) ≤ (i : Int) := by omega
        have HLR := Lib.hid hlr
        have HBW := Lib.hid hbw
        clear hlr hbw
        rename World => W1
        go_wp2_with fail
        go_loopw [7, 28] (fun o q wr => ∃ (k : Nat), k ≤ 3 ∧ q = .int .i64 k ∧ wr.ownsRow W1.heap.size 3 1 o k (is (wRow r i k)) ∧ Below W1.heap.size W1 wr) (fun _ q _ => 3 - (intOf q).toNat)
        case atStart => exact ⟨0, Nat.zero_le _, rfl, World.ownsRow_nil _ _ _ _, Below.refl _ _⟩
        case round =>
          obtain ⟨k, hk, rfl, hown, hbv⟩ := hrel
          by_cases hlt2 : k < 3
          · have hcell : wr.cell? ⟨w.heap.size, 2 + i * 3 + k, Option.none⟩ = some (.int .i8 (r[i * 3 + k]?.getD 0)) := by
              have hbb := HBW.out.trans (hbv.mono HBW.out.size)
              have hl := HC5.out.lt
              rw [(HC5.out.below hbb hl).cell, HCS.out]
              have hj : i * 3 + k < r.length := by rw [HRL.out]; omega
              rw [show 2 + i * 3 + k = (i * 3 + k) + 1 + 1 by omega, List.getElem?_cons_succ, List.getElem?_cons_succ, List.getElem?_map, List.getElem?_eq_getElem hj]
              rfl
            have hbd := HRB.out (i * 3 + k)
            have HNX := Lib.hid (wRow_next r i k)
            generalize r[i * 3 + k]?.getD 0 = z at *
            have ht := tmod7 z
            have hz1' : IntKind.i64.wrap z = z := IntWalk.i64_in _ (by omega)
            have hz2' : IntKind.i64.wrap (z.tmod 7) = z.tmod 7 := IntWalk.i64_in _ (by omega)
            have hk3 : (k : Int) < 3 := by omega
            have hkL : (k : Int) < 3 := by omega
            have hk0 : (0 : Int) ≤ (k : Int) := by omega
            have HO := Lib.hid hown
            have HB := Lib.hid hbv
            have hwk : W1.heap.size ≤ wr.heap.size := hbv.size
            clear hown hbv hbd
            go_wp2_with (at_builtin; refine wpList_append_own _ rfl _ _ _ rfl W1.heap.size 3 i0 (.int .i64 0) 1 8 Tryz.underlying41 hi0 hz0 hz1 hz2 rfl (by decide) _ _ _ rfl (HO.out.alloc _) ⟨wr.heap.size, 0, Option.none⟩ 1 1 [_] rfl rfl (cell_one_new _ _ _) (by intro u hu; simp at hu; subst hu; rfl) (by unfold maxLen; omega) (by omega) (by simp; omega) ?_; intro v9 w9 hown9 hg9 _)
            go_roundw
            case rel =>
              refine ⟨k + 1, by omega, by go_num, ?_, (HB.out.alloc hwk _).grown hg9 (by simp; omega) (fun k hk => (HO.out.lt k hk).1)⟩
              rw [HNX.out, is_append]; exact hown9
            case measure => simp [intOf]; omega
          · obtain rfl : k = 3 := by omega
            have hown2 : wr.ownsRow W1.heap.size 3 1 u7 (wRow r i 3).length (is (wRow r i 3)) := by rw [wRow_len]; exact hown
            have HOR := Lib.hid (ORow.of_own hown2)
            have HLR2 := Lib.hid (HLR.out.below hbv)
            have HB2 := Lib.hid (HBW.out.trans (hbv.mono HBW.out.size))
            have hwk : W5.heap.size ≤ wr.heap.size := HB2.out.size
            have HNX := Lib.hid (wTo_next r 3 i)
            have HLE := Lib.hid (wTo_len r 3 i)
            obtain ⟨j0, gj0, gz0, gz1, gz2⟩ := HIW.out
            obtain ⟨AD, cd, e9⟩ := HOR.out.shape
            rw [wRow_len] at e9
            subst e9
            obtain ⟨vs, hownl, hvs⟩ := HLR2.out
            rw [HLE.out] at hownl
            have HO := Lib.hid hownl
            have HVS := Lib.hid hvs
            clear hown hown2 hbv hownl hvs
            go_wp2_with (at_builtin; refine wpList_append_own _ rfl _ _ _ rfl W5.heap.size 41 j0 (.slice Option.none 0 0) 1 24 Tryz.underlying30 gj0 gz0 gz1 gz2 rfl (by decide) _ _ _ rfl (HO.out.alloc _) ⟨wr.heap.size, 0, Option.none⟩ 1 1 [_] rfl rfl (cell_one_new _ _ _) (by intro u hu; simp at hu; subst hu; rfl) (by unfold maxLen; omega) (by omega) (by simp; omega) ?_; intro v9 w9 hown9 hg9 _)
            go_roundw
            case rel =>
              refine ⟨i + 1, by omega, by go_num, ?_, (HB2.out.alloc hwk _).grown hg9 (by simp; omega) (fun k hk => (HO.out.lt k hk).1)⟩
              rw [HNX.out]
              have hO := HO.out
              have hor := HOR.out
              rw [← HLE.out] at hO hown9
              exact LRow.snoc (hO.alloc _) (fun j y hj => by obtain ⟨u, h1, h2⟩ := HVS.out j y hj; exact ⟨u, h1, h2.alloc _⟩) (hor.alloc _) hown9 hg9
            case measure => simp [intOf]; omega
      · obtain rfl : i = 1 + m % 6 := by omega
        have hnl : ¬ ((1 + m % 6 : Nat) : Int) < 1 + (m : Int) % 6 := by omega
        have HSO := Lib.hid (lwSortedO (.slice (some ⟨w.heap.size + 1, 0, Option.none⟩) 3 3) u5 [2, 3, 5] W5.heap.size (wTo r 3 (1 + m % 6)) wr (HS.out.below (HB5.out.trans (hbw.mono HB5.out.size)) (Nat.le_refl _)) (HP5.out.lift hbw) HPE.out hlr (fun x hx => by
          obtain ⟨t, _, rfl⟩ := List.mem_map.1 hx
          refine chk_small HPE.out (by rw [wRow_len]; rfl) fun z hz => ?_
          obtain ⟨y, hy, rfl⟩ := List.getElem_of_mem hz
          have := wRow_get r t 3 y
          rw [List.getElem?_eq_getElem hy, Option.getD_some] at this
          omega) (by rw [wTo_len]; omega) (by rw [wTo_len]; omega))
        obtain ⟨A5, c5, e5⟩ := hlr.shape
        rw [wTo_len] at e5
        subst e5
        have HBW := Lib.hid hbw
        have HP6 := Lib.hid (HP5.out.lift hbw)
        clear hlr hbw
        go_wp2_with fail
        refine HSO.out.mono ?_
        rintro e w7 ⟨⟨v7, rfl, hlr7⟩, hb7⟩
        have HLR7 := Lib.hid (hlr7.base (Nat.le_trans HB5.out.size HBW.out.size))
        have HP7 := Lib.hid (HP6.out.lift hb7)
        rw [← HWC.out] at HLR7
        rw [← HCP.out] at HP7
        obtain ⟨A7, c7, rfl⟩ := hlr7.shape
        clear hlr7
        go_wp2_with fail
        go_ret2
        exact ⟨⟨_, _, rfl, HP7.out, HLR7.out⟩, (HB5.out.trans (HBW.out.mono HB5.out.size)).trans (hb7.mono (HB5.out.trans (HBW.out.mono HB5.out.size)).size)⟩
  case inr.inl =>
    have hn3 : ((n : Int)) % 3 = 1 := by omega
    have hcp : chPrimes n = [2, 3] := by unfold chPrimes; rw [hk]; rfl
    obtain ⟨W5, hW5⟩ : ∃ W5, W5 = ((((w.alloc (.cells cs 26)).alloc (.cells #[.int .i64 2, .int .i64 3, .int .i64 5] 3)).alloc (.cells #[.int .i64 2, .int .i64 3] 3)).alloc (.cells #[.int .i64 2, .int .i64 3, .int .i64 7] 3)).alloc (.cells #[.slice (some ⟨w.heap.size + 1, 0, Option.none⟩) 3 3, .slice (some ⟨w.heap.size + 1 + 1, 0, Option.none⟩) 2 2, .slice (some ⟨w.heap.size + 1 + 1 + 1, 0, Option.none⟩) 3 3] 29) := ⟨_, rfl⟩
    have hb5 : Below w.heap.size w W5 := by rw [hW5]; exact mkW_below w cs
    have hc5 : Cells W5 w.heap.size 26 cs.toList := by rw [hW5]; exact mkW_cells w cs
    have hp5 : IsRow W5 W5.heap.size (.slice (some ⟨w.heap.size + 1 + 1, 0, Option.none⟩) 2 2) [2, 3] := by rw [hW5]; exact (mkW_rows w cs).2.1
    have HPE : Hid (primeErr [2, 3] = 0) := Lib.hid (by decide +kernel)
    have HB5 := Lib.hid hb5
    have HC5 := Lib.hid hc5
    have HP5 := Lib.hid hp5
    have HWC : Hid (wChord n m r = onceL [2, 3] (wTo r 2 (1 + m % 6))) := Lib.hid (by unfold wChord wRows wTo; rw [hcp]; rfl)
    have HCP := Lib.hid hcp
    clear hb5 hc5 hp5 hcp hk
    go_enter Tryz.func8, Tryz.ntmps8
    go_wp2_with fail
    rw [← hW5]
    clear hW5 z0 z1 c0 c1 hn3
    go_loopw [5, 23] (fun o i wr => ∃ (k : Nat), k ≤ 1 + m % 6 ∧ i = .int .i64 k ∧ LRow wr W5.heap.size o (wTo r 2 k) ∧ Below W5.heap.size W5 wr) (fun _ i _ => 7 - (intOf i).toNat)
    case atStart => exact ⟨0, Nat.zero_le _, rfl, LRow.nil _ _, Below.refl _ _⟩
    case round =>
      obtain ⟨i, hi, rfl, hlr, hbw⟩ := hrel
      by_cases hlt : i < 1 + m % 6
      · have hlti : (i : Int) < 1 + (m : Int) % 6 := by omega
        have hi6 : (i : Int) < 6 := by omega
        have hi00 : (0 : Int) ≤ (i : Int) := by omega
        have HLR := Lib.hid hlr
        have HBW := Lib.hid hbw
        clear hlr hbw
        rename World => W1
        go_wp2_with fail
        go_loopw [7, 28] (fun o q wr => ∃ (k : Nat), k ≤ 2 ∧ q = .int .i64 k ∧ wr.ownsRow W1.heap.size 3 1 o k (is (wRow r i k)) ∧ Below W1.heap.size W1 wr) (fun _ q _ => 2 - (intOf q).toNat)
        case atStart => exact ⟨0, Nat.zero_le _, rfl, World.ownsRow_nil _ _ _ _, Below.refl _ _⟩
        case round =>
          obtain ⟨k, hk, rfl, hown, hbv⟩ := hrel
          by_cases hlt2 : k < 2
          · have hcell : wr.cell? ⟨w.heap.size, 2 + i * 3 + k, Option.none⟩ = some (.int .i8 (r[i * 3 + k]?.getD 0)) := by
              have hbb := HBW.out.trans (hbv.mono HBW.out.size)
              have hl := HC5.out.lt
              rw [(HC5.out.below hbb hl).cell, HCS.out]
              have hj : i * 3 + k < r.length := by rw [HRL.out]; omega
              rw [show 2 + i * 3 + k = (i * 3 + k) + 1 + 1 by omega, List.getElem?_cons_succ, List.getElem?_cons_succ, List.getElem?_map, List.getElem?_eq_getElem hj]
              rfl
            have hbd := HRB.out (i * 3 + k)
            have HNX := Lib.hid (wRow_next r i k)
            generalize r[i * 3 + k]?.getD 0 = z at *
            have ht := tmod7 z
            have hz1' : IntKind.i64.wrap z = z := IntWalk.i64_in _ (by omega)
            have hz2' : IntKind.i64.wrap (z.tmod 7) = z.tmod 7 := IntWalk.i64_in _ (by omega)
            have hk3 : (k : Int) < 3 := by omega
            have hkL : (k : Int) < 2 := by omega
            have hk0 : (0 : Int) ≤ (k : Int) := by omega
            have HO := Lib.hid hown
            have HB := Lib.hid hbv
            have hwk : W1.heap.size ≤ wr.heap.size := hbv.size
            clear hown hbv hbd
            go_wp2_with (at_builtin; refine wpList_append_own _ rfl _ _ _ rfl W1.heap.size 3 i0 (.int .i64 0) 1 8 Tryz.underlying41 hi0 hz0 hz1 hz2 rfl (by decide) _ _ _ rfl (HO.out.alloc _) ⟨wr.heap.size, 0, Option.none⟩ 1 1 [_] rfl rfl (cell_one_new _ _ _) (by intro u hu; simp at hu; subst hu; rfl) (by unfold maxLen; omega) (by omega) (by simp; omega) ?_; intro v9 w9 hown9 hg9 _)
            go_roundw
            case rel =>
              refine ⟨k + 1, by omega, by go_num, ?_, (HB.out.alloc hwk _).grown hg9 (by simp; omega) (fun k hk => (HO.out.lt k hk).1)⟩
              rw [HNX.out, is_append]; exact hown9
            case measure => simp [intOf]; omega
          · obtain rfl : k = 2 := by omega
            have hown2 : wr.ownsRow W1.heap.size 3 1 u7 (wRow r i 2).length (is (wRow r i 2)) := by rw [wRow_len]; exact hown
            have HOR := Lib.hid (ORow.of_own hown2)
            have HLR2 := Lib.hid (HLR.out.below hbv)
            have HB2 := Lib.hid (HBW.out.trans (hbv.mono HBW.out.size))
            have hwk : W5.heap.size ≤ wr.heap.size := HB2.out.size
            have HNX := Lib.hid (wTo_next r 2 i)
            have HLE := Lib.hid (wTo_len r 2 i)
            obtain ⟨j0, gj0, gz0, gz1, gz2⟩ := HIW.out
            obtain ⟨AD, cd, e9⟩ := HOR.out.shape
            rw [wRow_len] at e9
            subst e9
            obtain ⟨vs, hownl, hvs⟩ := HLR2.out
            rw [HLE.out] at hownl
            have HO := Lib.hid hownl
            have HVS := Lib.hid hvs
            clear hown hown2 hbv hownl hvs
            go_wp2_with (at_builtin; refine wpList_append_own _ rfl _ _ _ rfl W5.heap.size 41 j0 (.slice Option.none 0 0) 1 24 Tryz.underlying30 gj0 gz0 gz1 gz2 rfl (by decide) _ _ _ rfl (HO.out.alloc _) ⟨wr.heap.size, 0, Option.none⟩ 1 1 [_] rfl rfl (cell_one_new _ _ _) (by intro u hu; simp at hu; subst hu; rfl) (by unfold maxLen; omega) (by omega) (by simp; omega) ?_; intro v9 w9 hown9 hg9 _)
            go_roundw
            case rel =>
              refine ⟨i + 1, by omega, by go_num, ?_, (HB2.out.alloc hwk _).grown hg9 (by simp; omega) (fun k hk => (HO.out.lt k hk).1)⟩
              rw [HNX.out]
              have hO := HO.out
              have hor := HOR.out
              rw [← HLE.out] at hO hown9
              exact LRow.snoc (hO.alloc _) (fun j y hj => by obtain ⟨u, h1, h2⟩ := HVS.out j y hj; exact ⟨u, h1, h2.alloc _⟩) (hor.alloc _) hown9 hg9
            case measure => simp [intOf]; omega
      · obtain rfl : i = 1 + m % 6 := by omega
        have hnl : ¬ ((1 + m % 6 : Nat) : Int) < 1 + (m : Int) % 6 := by omega
        have HSO := Lib.hid (lwSortedO (.slice (some ⟨w.heap.size + 1 + 1, 0, Option.none⟩) 2 2) u5 [2, 3] W5.heap.size (wTo r 2 (1 + m % 6)) wr (HS.out.below (HB5.out.trans (hbw.mono HB5.out.size)) (Nat.le_refl _)) (HP5.out.lift hbw) HPE.out hlr (fun x hx => by
          obtain ⟨t, _, rfl⟩ := List.mem_map.1 hx
          refine chk_small HPE.out (by rw [wRow_len]; rfl) fun z hz => ?_
          obtain ⟨y, hy, rfl⟩ := List.getElem_of_mem hz
          have := wRow_get r t 2 y
          rw [List.getElem?_eq_getElem hy, Option.getD_some] at this
          omega) (by rw [wTo_len]; omega) (by rw [wTo_len]; omega))
        obtain ⟨A5, c5, e5⟩ := hlr.shape
        rw [wTo_len] at e5
        subst e5
        have HBW := Lib.hid hbw
        have HP6 := Lib.hid (HP5.out.lift hbw)
        clear hlr hbw
        go_wp2_with fail
        refine HSO.out.mono ?_
        rintro e w7 ⟨⟨v7, rfl, hlr7⟩, hb7⟩
        have HLR7 := Lib.hid (hlr7.base (Nat.le_trans HB5.out.size HBW.out.size))
        have HP7 := Lib.hid (HP6.out.lift hb7)
        rw [← HWC.out] at HLR7
        rw [← HCP.out] at HP7
        obtain ⟨A7, c7, rfl⟩ := hlr7.shape
        clear hlr7
        go_wp2_with fail
        go_ret2
        exact ⟨⟨_, _, rfl, HP7.out, HLR7.out⟩, (HB5.out.trans (HBW.out.mono HB5.out.size)).trans (hb7.mono (HB5.out.trans (HBW.out.mono HB5.out.size)).size)⟩
  case inr.inr =>
    have hn3 : ((n : Int)) % 3 = 2 := by omega
    have hcp : chPrimes n = [2, 3, 7] := by unfold chPrimes; rw [hk]; rfl
    obtain ⟨W5, hW5⟩ : ∃ W5, W5 = ((((w.alloc (.cells cs 26)).alloc (.cells #[.int .i64 2, .int .i64 3, .int .i64 5] 3)).alloc (.cells #[.int .i64 2, .int .i64 3] 3)).alloc (.cells #[.int .i64 2, .int .i64 3, .int .i64 7] 3)).alloc (.cells #[.slice (some ⟨w.heap.size + 1, 0, Option.none⟩) 3 3, .slice (some ⟨w.heap.size + 1 + 1, 0, Option.none⟩) 2 2, .slice (some ⟨w.heap.size + 1 + 1 + 1, 0, Option.none⟩) 3 3] 29) := ⟨_, rfl⟩
    have hb5 : Below w.heap.size w W5 := by rw [hW5]; exact mkW_below w cs
    have hc5 : Cells W5 w.heap.size 26 cs.toList := by rw [hW5]; exact mkW_cells w cs
    have hp5 : IsRow W5 W5.heap.size (.slice (some ⟨w.heap.size + 1 + 1 + 1, 0, Option.none⟩) 3 3) [2, 3, 7] := by rw [hW5]; exact (mkW_rows w cs).2.2
    have HPE : Hid (primeErr [2, 3, 7] = 0) := Lib.hid (by decide +kernel)
    have HB5 := Lib.hid hb5
    have HC5 := Lib.hid hc5
    have HP5 := Lib.hid hp5
    have HWC : Hid (wChord n m r = onceL [2, 3, 7] (wTo r 3 (1 + m % 6))) := Lib.hid (by unfold wChord wRows wTo; rw [hcp]; rfl)
    have HCP := Lib.hid hcp
    clear hb5 hc5 hp5 hcp hk
    go_enter Tryz.func8, Tryz.ntmps8
    go_wp2_with fail
    rw [← hW5]
    clear hW5 z0 z1 c0 c1 hn3
    go_loopw [5, 23] (fun o i wr => ∃ (k : Nat), k ≤ 1 + m % 6 ∧ i = .int .i64 k ∧ LRow wr W5.heap.size o (wTo r 3 k) ∧ Below W5.heap.size W5 wr) (fun _ i _ => 7 - (intOf i).toNat)
    case atStart => exact ⟨0, Nat.zero_le _, rfl, LRow.nil _ _, Below.refl _ _⟩
    case round =>
      obtain ⟨i, hi, rfl, hlr, hbw⟩ := hrel
      by_cases hlt : i < 1 + m % 6
      · have hlti : (i : Int) < 1 + (m : Int) % 6 := by omega
        have hi6 : (i : Int) < 6 := by omega
        have hi00 : (0 : Int) ≤ (i : Int) := by omega
        have HLR := Lib.hid hlr
        have HBW := Lib.hid hbw
        clear hlr hbw
        rename World => W1
        go_wp2_with fail
        go_loopw [7, 28] (fun o q wr => ∃ (k : Nat), k ≤ 3 ∧ q = .int .i64 k ∧ wr.ownsRow W1.heap.size 3 1 o k (is (wRow r i k)) ∧ Below W1.heap.size W1 wr) (fun _ q _ => 3 - (intOf q).toNat)
        case atStart => exact ⟨0, Nat.zero_le _, rfl, World.ownsRow_nil _ _ _ _, Below.refl _ _⟩
        case round =>
          obtain ⟨k, hk, rfl, hown, hbv⟩ := hrel
          by_cases hlt2 : k < 3
          · have hcell : wr.cell? ⟨w.heap.size, 2 + i * 3 + k, Option.none⟩ = some (.int .i8 (r[i * 3 + k]?.getD 0)) := by
              have hbb := HBW.out.trans (hbv.mono HBW.out.size)
              have hl := HC5.out.lt
              rw [(HC5.out.below hbb hl).cell, HCS.out]
              have hj : i * 3 + k < r.length := by rw [HRL.out]; omega
              rw [show 2 + i * 3 + k = (i * 3 + k) + 1 + 1 by omega, List.getElem?_cons_succ, List.getElem?_cons_succ, List.getElem?_map, List.getElem?_eq_getElem hj]
              rfl
            have hbd := HRB.out (i * 3 + k)
            have HNX := Lib.hid (wRow_next r i k)
            generalize r[i * 3 + k]?.getD 0 = z at *
            have ht := tmod7 z
            have hz1' : IntKind.i64.wrap z = z := IntWalk.i64_in _ (by omega)
            have hz2' : IntKind.i64.wrap (z.tmod 7) = z.tmod 7 := IntWalk.i64_in _ (by omega)
            have hk3 : (k : Int) < 3 := by omega
            have hkL : (k : Int) < 3 := by omega
            have hk0 : (0 : Int) ≤ (k : Int) := by omega
            have HO := Lib.hid hown
            have HB := Lib.hid hbv
            have hwk : W1.heap.size ≤ wr.heap.size := hbv.size
            clear hown hbv hbd
            go_wp2_with (at_builtin; refine wpList_append_own _ rfl _ _ _ rfl W1.heap.size 3 i0 (.int .i64 0) 1 8 Tryz.underlying41 hi0 hz0 hz1 hz2 rfl (by decide) _ _ _ rfl (HO.out.alloc _) ⟨wr.heap.size, 0, Option.none⟩ 1 1 [_] rfl rfl (cell_one_new _ _ _) (by intro u hu; simp at hu; subst hu; rfl) (by unfold maxLen; omega) (by omega) (by simp; omega) ?_; intro v9 w9 hown9 hg9 _)
            go_roundw
            case rel =>
              refine ⟨k + 1, by omega, by go_num, ?_, (HB.out.alloc hwk _).grown hg9 (by simp; omega) (fun k hk => (HO.out.lt k hk).1)⟩
              rw [HNX.out, is_append]; exact hown9
            case measure => simp [intOf]; omega
          · obtain rfl : k = 3 := by omega
            have hown2 : wr.ownsRow W1.heap.size 3 1 u7 (wRow r i 3).length (is (wRow r i 3)) := by rw [wRow_len]; exact hown
            have HOR := Lib.hid (ORow.of_own hown2)
            have HLR2 := Lib.hid (HLR.out.below hbv)
            have HB2 := Lib.hid (HBW.out.trans (hbv.mono HBW.out.size))
            have hwk : W5.heap.size ≤ wr.heap.size := HB2.out.size
            have HNX := Lib.hid (wTo_next r 3 i)
            have HLE := Lib.hid (wTo_len r 3 i)
            obtain ⟨j0, gj0, gz0, gz1, gz2⟩ := HIW.out
            obtain ⟨AD, cd, e9⟩ := HOR.out.shape
            rw [wRow_len] at e9
            subst e9
            obtain ⟨vs, hownl, hvs⟩ := HLR2.out
            rw [HLE.out] at hownl
            have HO := Lib.hid hownl
            have HVS := Lib.hid hvs
            clear hown hown2 hbv hownl hvs
            go_wp2_with (at_builtin; refine wpList_append_own _ rfl _ _ _ rfl W5.heap.size 41 j0 (.slice Option.none 0 0) 1 24 Tryz.underlying30 gj0 gz0 gz1 gz2 rfl (by decide) _ _ _ rfl (HO.out.alloc _) ⟨wr.heap.size, 0, Option.none⟩ 1 1 [_] rfl rfl (cell_one_new _ _ _) (by intro u hu; simp at hu; subst hu; rfl) (by unfold maxLen; omega) (by omega) (by simp; omega) ?_; intro v9 w9 hown9 hg9 _)
            go_roundw
            case rel =>
              refine ⟨i + 1, by omega, by go_num, ?_, (HB2.out.alloc hwk _).grown hg9 (by simp; omega) (fun k hk => (HO.out.lt k hk).1)⟩
              rw [HNX.out]
              have hO := HO.out
              have hor := HOR.out
              rw [← HLE.out] at hO hown9
              exact LRow.snoc (hO.alloc _) (fun j y hj => by obtain ⟨u, h1, h2⟩ := HVS.out j y hj; exact ⟨u, h1, h2.alloc _⟩) (hor.alloc _) hown9 hg9
            case measure => simp [intOf]; omega
      · obtain rfl : i = 1 + m % 6 := by omega
        have hnl : ¬ ((1 + m % 6 : Nat) : Int) < 1 + (m : Int) % 6 := by omega
        have HSO := Lib.hid (lwSortedO (.slice (some ⟨w.heap.size + 1 + 1 + 1, 0, Option.none⟩) 3 3) u5 [2, 3, 7] W5.heap.size (wTo r 3 (1 + m % 6)) wr (HS.out.below (HB5.out.trans (hbw.mono HB5.out.size)) (Nat.le_refl _)) (HP5.out.lift hbw) HPE.out hlr (fun x hx => by
          obtain ⟨t, _, rfl⟩ := List.mem_map.1 hx
          refine chk_small HPE.out (by rw [wRow_len]; rfl) fun z hz => ?_
          obtain ⟨y, hy, rfl⟩ := List.getElem_of_mem hz
          have := wRow_get r t 3 y
          rw [List.getElem?_eq_getElem hy, Option.getD_some] at this
          omega) (by rw [wTo_len]; omega) (by rw [wTo_len]; omega))
        obtain ⟨A5, c5, e5⟩ := hlr.shape
        rw [wTo_len] at e5
        subst e5
        have HBW := Lib.hid hbw
        have HP6 := Lib.hid (HP5.out.lift hbw)
        clear hlr hbw
        go_wp2_with fail
        refine HSO.out.mono ?_
        rintro e w7 ⟨⟨v7, rfl, hlr7⟩, hb7⟩
        have HLR7 := Lib.hid (hlr7.base (Nat.le_trans HB5.out.size HBW.out.size))
        have HP7 := Lib.hid (HP6.out.lift hb7)
        rw [← HWC.out] at HLR7
        rw [← HCP.out] at HP7
        obtain ⟨A7, c7, rfl⟩ := hlr7.shape
        clear hlr7
        go_wp2_with fail
        go_ret2
        exact ⟨⟨_, _, rfl, HP7.out, HLR7.out⟩, (HB5.out.trans (HBW.out.mono HB5.out.size)).trans (hb7.mono (HB5.out.trans (HBW.out.mono HB5.out.size)).size)⟩

end Go.Proofs.YtaiglcbgllnciaaGreatDoor
