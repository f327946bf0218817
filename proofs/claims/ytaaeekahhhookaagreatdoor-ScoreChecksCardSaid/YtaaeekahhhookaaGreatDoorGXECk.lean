import Derived.Test.YtaaeekahhhookaaGreatDoorGBCk
import Derived.Below
import Derived.Test.YtaaeekahhhookaaGreatDoorGXDMCk
import Derived.Laws.AppendOwnNone
import Derived.Shelf.SlSortCmp.WholeK
import Derived.Ground.SlsfProg
import Derived.Test.YtaaeekahhhookaaGreatDoorShelf5
import Derived.Test.YtaaeekahhhookaaGreatDoorGTACk
import Derived.Test.YtaaeekahhhookaaGreatDoorGTEMCk
import Derived.Lib.QuietBelow
import Derived.Lib.OwnBridge
import Derived.Laws.StructEq
import Derived.Laws.IdiomCopy
import Derived.Lib.SliceRun
import Derived.Test.YtaaeekahhhookaaGreatDoorGTHMCk
import Derived.Deep.QuietTactic
import Derived.BigQuiet
namespace Go.Proofs.YtaaeekahhhookaaGreatDoor
open Go.RowKit
section
variable {P : Program} (w : World)
theorem run_zeros_nil (t ti ty e : TypeId) (i : TypeInfo) (z : Value) (size bytes : Nat) (ht : P.underlying t = some (.slice e)) (hti : P.underlying ti = some (.int .i64)) (hi : P.info? e = some i) (hz : i.zero = some z)
  (hsize : i.size = size) (hby : i.bytes = bytes) (hzs : z.cells.size = size) (hsz : 0 < size) (m : Nat) (hm : 0 < m)
  (h63 : m ≤ maxLen) (hbytes : m * bytes ≤ 140737488355328) :
  ∃ cap w', (Builtin.append_ #[t, ti] ty #[.slice Option.none 0 0, .int .i64 (m : Int)]).run P w = .ok (.slice (some ⟨w.heap.size, 0, Option.none⟩) m cap) w' ∧ w'.ownsRow w.heap.size e size (.slice (some ⟨w.heap.size, 0, Option.none⟩) 0 cap) 0 [] ∧ Below w.heap.size w w' := by
 subst hby
 subst hsize
 have hsmall : m ≤ 9223372036854775807 := by simp only [maxLen] at h63; omega
 have hw : IntKind.i64.wrap (m : Int) = (m : Int) := IntWalk.i64_in _ (by omega)
 have hneg : ¬ ((m : Int) < 0) := by omega
 have hbig : ¬ (281474976710656 < (m : Int) * (i.bytes : Int)) := by rw [← Int.natCast_mul]; omega
 have hm0 : ¬ m = 0 := by omega
 have h63' : ¬ (9223372036854775807 < (m : Int)) := by omega
 have h48' : ¬ (281474976710656 < Builtin.nextslicecap m 0 * i.bytes) := by rw [nextslicecap_zero (by omega)]; omega
 have hge : m ≤ grownCap w m 0 e := grownCap_ge w m 0 e
 have hgm : grownCap w m 0 e ≤ maxLen := grownCap_le_maxLen _ _ _ _ h63
 refine ⟨grownCap w m 0 e, w.drew.alloc (.cells (Builtin.zeroCells z.cells m ++ Builtin.zeroCells z.cells (grownCap w m 0 e - m)) e), ?_, ⟨by simp, .inr ⟨w.heap.size, _, _, rfl, Nat.le_refl _, heap_alloc_new w.drew _, Nat.zero_le _, hgm, ?_, by simp⟩⟩, ⟨rfl, rfl, rfl, by simp, fun k hk => Below.heap_alloc w.drew _ k hk⟩⟩
 ·simp [Builtin.append_, run_underlying ht, run_underlying hti, sizeOf, typeInfo, zeroValue, hz, hi, asInt, asIntOf, hw, hneg, hbig, hm0, h63', h48', Question.forced, run_firstCells_none, newRow, grownCap]
  intro h0
  exact absurd h0 (Nat.ne_of_gt (Nat.mul_pos hm hsz))
 ·rw [Array.size_append, size_zeroCells, size_zeroCells, hzs, ← Nat.add_mul]
  congr 1
  omega
theorem wpList_zeros_nil {ops : Array Oper} {rest : List Oper} {o : Oper} {a : Act} {Q : Exit → Act → World → Prop} (hgd : o.guard = Option.none) (s x : Operand) (t ti : TypeId)
  (ho : o.op = .call { callee := .builtin .append, args := #[s, x], argTypes := #[t, ti] })
  (e : TypeId) (i : TypeInfo) (z : Value) (size bytes : Nat) (ht : P.underlying t = some (.slice e)) (hti : P.underlying ti = some (.int .i64)) (hi : P.info? e = some i) (hz : i.zero = some z)
  (hsize : i.size = size) (hby : i.bytes = bytes) (hzs : z.cells.size = size) (hsz : 0 < size)
  (hs : a.eval s = .slice Option.none 0 0) (m : Nat) (zm : Int) (hx : a.eval x = .int .i64 zm) (hzm : zm = (m : Int)) (hm : 0 < m)
  (h63 : m ≤ maxLen) (hbytes : m * bytes ≤ 140737488355328)
  (h : ∀ cap w', w'.ownsRow w.heap.size e size (.slice (some ⟨w.heap.size, 0, Option.none⟩) 0 cap) 0 [] → Below w.heap.size w w' → wpList P ops Q rest (a.put o.dst (.slice (some ⟨w.heap.size, 0, Option.none⟩) m cap)) w') : wpList P ops Q (o :: rest) a w := by
 subst hzm
 refine wpList_plain hgd fun K hK => ?_
 obtain ⟨cap, w', hr, h2, h3⟩ := run_zeros_nil (P := P) w t ti o.type e i z size bytes ht hti hi hz hsize hby hzs hsz m hm h63 hbytes
 unfold Oper.wp execOp
 simp only [ho, resolve, invoke, builtin, Sem.run_bind, Sem.run_pure, Result.andThen_ok, List.map_toArray, List.map_cons, List.map_nil, hs, hx, hr]
 exact hK _ _ (h cap w' h2 h3)
end
end Go.Proofs.YtaaeekahhhookaaGreatDoor
namespace Go.Proofs.YtaaeekahhhookaaGreatDoor
open Go.RowKit Go.Lib
def tmC (a : Nat) : List Value := [.string ⟨(t12n a).toArray⟩, .string ⟨(t12d a).toArray⟩]
def flatT (l : List Nat) : List Value := (l.map tmC).flatten
theorem flatT_app (l m : List Nat) : flatT (l ++ m) = flatT l ++ flatT m := by unfold flatT; rw [List.map_append, List.flatten_append]
theorem flatT_len (l : List Nat) : (flatT l).length = l.length * 2 := by
 unfold flatT
 rw [flat_lenS _ 2 (fun c hc => by obtain ⟨a, _, rfl⟩ := List.mem_map.1 hc; rfl), List.length_map]
theorem flatT_get {l : List Nat} {k a : Nat} (h : l[k]? = some a) : (flatT l)[k * 2]? = some (.string ⟨(t12n a).toArray⟩) ∧ (flatT l)[k * 2 + 1]? = some (.string ⟨(t12d a).toArray⟩) := by
 have hl : ∀ c ∈ l.map tmC, c.length = 2 := fun c hc => by obtain ⟨a, _, rfl⟩ := List.mem_map.1 hc; rfl
 have hk : (l.map tmC)[k]? = some (tmC a) := by rw [List.getElem?_map, h]; rfl
 have h0 := flat_getS _ 2 k 0 _ hl hk (by decide)
 have h1 := flat_getS _ 2 k 1 _ hl hk (by decide)
 exact ⟨h0, h1⟩
theorem flatT_one (l : List Nat) : ∀ u ∈ flatT l, u.oneCell' = true := by
 intro u hu
 unfold flatT at hu
 obtain ⟨c, hc, hu⟩ := List.mem_flatten.1 hu
 obtain ⟨a, _, rfl⟩ := List.mem_map.1 hc
 simp [tmC] at hu
 rcases hu with rfl | rfl <;> rfl
theorem TmO.own {w : World} {base : Nat} {v : Value} {l : List Nat} (h : TmO w base v l) : w.ownsRow base 51 2 v l.length (flatT l) := by
 obtain ⟨css, h⟩ := h
 have e : css = l.map tmC := by
  apply List.ext_getElem
  ·rw [h.len, List.length_map]
  ·intro k h1 h2
   have hk : k < l.length := by rw [← h.len]; exact h1
   rw [List.getElem_map]
   exact h.part k _ _ (List.getElem?_eq_getElem hk) (List.getElem?_eq_getElem h1)
 have := h.own
 rw [e] at this
 exact this
theorem TmO.of_own {w : World} {base : Nat} {v : Value} {l : List Nat} (h : w.ownsRow base 51 2 v l.length (flatT l)) : TmO w base v l :=
 ⟨l.map tmC, h, List.length_map _, fun c hc => by obtain ⟨a, _, rfl⟩ := List.mem_map.1 hc; rfl, fun k x cs h1 h2 => by
   rw [List.getElem?_map, h1] at h2
   injection h2 with h2
   exact h2.symm⟩
theorem TmT.cells {w : World} {B b o : Nat} {l : List Nat} (h : TmT w B (some ⟨b, o, Option.none⟩) l) : ∀ (j : Nat) u, (flatT l)[j]? = some u → w.cell? ((⟨b, o, Option.none⟩ : Addr).add j) = some u := by
 intro j u hu
 have hj : j < l.length * 2 := by rw [← flatT_len]; exact (List.getElem?_eq_some_iff.1 hu).1
 have hk : j / 2 < l.length := by omega
 obtain ⟨b', o', e, _, c0, c1⟩ := TmT.at_ h (List.getElem?_eq_getElem hk)
 injection e with e
 injection e with e1 e2 _
 subst e1 e2
 obtain ⟨f0, f1⟩ := flatT_get (List.getElem?_eq_getElem hk)
 rw [Lib.add_plain]
 rcases (show j = j / 2 * 2 ∨ j = j / 2 * 2 + 1 by omega) with h2 | h2
 ·rw [h2] at hu
  rw [f0] at hu
  injection hu with hu
  rw [← hu, show o + j = o + j / 2 * 2 by omega]
  exact c0
 ·rw [h2] at hu
  rw [f1] at hu
  injection hu with hu
  rw [← hu, show o + j = o + j / 2 * 2 + 1 by omega]
  exact c1
set_option maxRecDepth 100000 in
set_option maxHeartbeats 1000000 in
theorem growT_any (n : Nat) (w : World) (hn : n ≤ 10000000) :
  Calls Tryz.prog 103 #[.slice Option.none 0 0, .int .i64 n] w fun e w' => (∃ v, e = .returned v ∧ w'.ownsRow w.heap.size 51 2 v 0 []) ∧ Below w.heap.size w w' := by
 obtain ⟨i0, hi0, hz0, hz1, hz2⟩ := info_parts Tryz.info_rat48
 by_cases h0 : n = 0
 ·subst h0
  go_enter Tryz.func103, Tryz.ntmps103
  go_wp2_with fail
  go_ret
  exact ⟨⟨_, rfl, World.ownsRow_nil _ _ _ _⟩, Below.refl _ _⟩
 ·have hp : 0 < n := by omega
  have hnb : ((n : Int) == 0) = false := by rw [beq_eq_false_iff_ne]; omega
  go_enter Tryz.func103, Tryz.ntmps103
  go_wp2_with (at_builtin; refine wpList_zeros_nil _ rfl _ _ _ _ rfl 51 i0 (.agg #[.string ⟨#[]⟩, .string ⟨#[]⟩]) 2 32 Tryz.underlying65 Tryz.underlying3 hi0 hz0 hz1 hz2 rfl (by decide) rfl n _ rfl rfl hp (by unfold maxLen; omega) (by omega) ?_; intro cap w2 hown2 hb2)
  go_ret
  exact ⟨⟨_, rfl, hown2⟩, hb2⟩
def lenTo (ll : List (List Nat)) (k : Nat) : Nat := ((ll.take k).map List.length).sum
theorem lenTo_next {ll : List (List Nat)} {k : Nat} (hk : k < ll.length) : lenTo ll (k + 1) = lenTo ll k + (ll[k]'hk).length := by
 unfold lenTo
 rw [List.take_succ_eq_append_getElem hk, List.map_append, List.sum_append]
 simp
theorem lenTo_le {ll : List (List Nat)} {M : Nat} (h : ∀ l ∈ ll, l.length ≤ M) : ∀ k, k ≤ ll.length → lenTo ll k ≤ k * M
 | 0, _ => by simp [lenTo]
 | k + 1, hk => by
   have h1 := lenTo_le h k (by omega)
   have h2 := h _ (List.getElem_mem (show k < ll.length by omega))
   rw [lenTo_next (show k < ll.length by omega), Nat.add_mul]
   omega
theorem flatTo_next {ll : List (List Nat)} {k : Nat} (hk : k < ll.length) : (ll.take (k + 1)).flatten = (ll.take k).flatten ++ ll[k]'hk := by
 rw [List.take_succ_eq_append_getElem hk, List.flatten_append]
 simp
theorem flatTo_len (ll : List (List Nat)) (k : Nat) : ((ll.take k).flatten).length = lenTo ll k := by
 unfold lenTo
 rw [List.length_flatten]
set_option maxRecDepth 100000 in
set_option maxHeartbeats 4000000 in
theorem concatT_any (A : Option Addr) (c : Nat) (ll : List (List Nat)) (w : World) (h : TsT w w.heap.size A ll) (hl : ll.length ≤ 1000) (hll : ∀ l ∈ ll, 0 < l.length ∧ l.length ≤ 1001) :
  Calls Tryz.prog 68 #[.slice A ll.length c] w fun e w' => (∃ v, e = .returned v ∧ TmO w' w.heap.size v ll.flatten) ∧ Below w.heap.size w w' := by
 obtain ⟨i0, hi0, hz0, hz1, hz2⟩ := info_parts Tryz.info_rat48
 have HA := Lib.hid h
 have HLL : Box (∀ l ∈ ll, 0 < l.length ∧ l.length ≤ 1001) := ⟨hll⟩
 have HLE : Box (∀ k, k ≤ ll.length → lenTo ll k ≤ k * 1001) := ⟨fun k hk => lenTo_le (fun l hl => (hll l hl).2) k hk⟩
 have HFL : Box (∀ k, ((ll.take k).flatten).length = lenTo ll k) := ⟨fun k => flatTo_len ll k⟩
 have HN : Box (∀ k (hk : k < ll.length), lenTo ll (k + 1) = lenTo ll k + (ll[k]'hk).length) := ⟨fun k hk => lenTo_next hk⟩
 have HNF : Box (∀ k (hk : k < ll.length), (ll.take (k + 1)).flatten = (ll.take k).flatten ++ ll[k]'hk) := ⟨fun k hk => flatTo_next hk⟩
 have HL0 : Box (lenTo ll 0 = 0) := ⟨rfl⟩
 have HGR := Lib.hid (growT_any (lenTo ll ll.length) w (by have := HLE.out ll.length (Nat.le_refl _); omega))
 clear h hll
 go_enter Tryz.func68, Tryz.ntmps68
 go_wp2_with fail
 go_loop [3, 11] (fun s i => ∃ k : Nat, k ≤ ll.length ∧ i = .int .i64 k ∧ s = .int .i64 (lenTo ll k)) (fun _ i => ll.length - (intOf i).toNat)
 case atStart => exact ⟨0, Nat.zero_le _, rfl, by rw [HL0.out]; rfl⟩
 case round =>
  obtain ⟨k, hk, rfl, rfl⟩ := hrel
  by_cases hlt : k < ll.length
  ·obtain ⟨b1, o1, A1, C1, rfl, hb1, p0, _, _, _⟩ := HA.out.at_ hlt
   have hle := HLE.out (k + 1) (by omega)
   have HNK := Lib.hid (HN.out k hlt)
   have HX : Box (lenTo ll (k + 1) = lenTo ll k + (ll[k]'hlt).length) := ⟨HNK.out⟩
   have hle2 : lenTo ll k + (ll[k]'hlt).length ≤ 1001000 := by rw [← HX.out]; omega
   generalize (ll[k]'hlt).length = n at *
   generalize hlk : lenTo ll k = m at *
   have HM : Box (lenTo ll k = m) := ⟨hlk⟩
   clear hlk hle HNK
   have hnn : ¬ ((m : Int) + (n : Int) < 0) := by omega
   go_wp2_with fail
   go_round
   case rel => exact ⟨k + 1, by omega, by go_num, by rw [HX.out]; go_num⟩
   case measure => simp [intOf]; omega
  ·obtain rfl : k = ll.length := by omega
   have hle := HLE.out ll.length (Nat.le_refl _)
   go_wp2_with fail
   refine HGR.out.mono ?_
   rintro e w1 ⟨⟨v1, rfl, hown⟩, hb1⟩
   have HT0 : Hid (TmO w1 w.heap.size v1 ((ll.take 0).flatten)) := Lib.hid (TmO.of_own (by simpa [flatT] using hown))
   have HB1 := Lib.hid hb1
   obtain ⟨A9, c9, rfl, _⟩ := HT0.out.shape
   clear hown hb1 HGR
   go_wp2_with fail
   go_loopw [6, 27] (fun o i wr => ∃ k : Nat, k ≤ ll.length ∧ i = .int .i64 k ∧ TmO wr w.heap.size o ((ll.take k).flatten) ∧ Below w.heap.size w wr) (fun _ i _ => ll.length - (intOf i).toNat)
   case atStart => exact ⟨0, Nat.zero_le _, rfl, HT0.out, HB1.out⟩
   case round =>
    clear HT0 HB1
    obtain ⟨k, hk, rfl, ht, hbw⟩ := hrel
    by_cases hlt : k < ll.length
    ·obtain ⟨b1, o1, A1, C1, rfl, hb1, p0, _, _, htm⟩ := (HA.out.lift hbw).at_ hlt
     have HNK : Box ((ll.take (k + 1)).flatten = (ll.take k).flatten ++ ll[k]'hlt) := ⟨HNF.out k hlt⟩
     have hle1 := HLE.out (k + 1) (by omega)
     rw [HN.out k hlt] at hle1
     have hfl := HFL.out k
     obtain ⟨hp, hp2⟩ := HLL.out _ (List.getElem_mem hlt)
     generalize ll[k]'hlt = l at *
     obtain ⟨b2, o2, rfl, _⟩ := TmT.at_ htm (List.getElem?_eq_getElem hp)
     have hown := ht.own
     rw [hfl] at hown
     have HO := Lib.hid hown
     have HC := Lib.hid htm.cells
     have HB := Lib.hid hbw
     have hsz := hbw.size
     generalize (ll.take k).flatten = st at *
     generalize lenTo ll k = m at *
     have HFM : Box (st.length = m) := ⟨hfl⟩
     have hlm : m + l.length ≤ 1001000 := by omega
     clear ht hown htm hbw hfl hb1 hle1
     go_wp2_with (at_builtin; refine wpList_append_own _ rfl _ _ _ rfl w.heap.size 51 i0 (.agg #[.string ⟨#[]⟩, .string ⟨#[]⟩]) 2 32 Tryz.underlying65 hi0 hz0 hz1 hz2 rfl (by decide) _ _ _ rfl HO.out ⟨b2, o2, Option.none⟩ l.length _ (flatT l) rfl (flatT_len l) HC.out (flatT_one l) (by unfold maxLen; omega) (by omega) hsz ?_; intro v3 w3 hown3 hg3 _)
     have hb3 := HB.out.grown hg3 hsz (fun k hk => (HO.out.lt k hk).1)
     have HT3 : Hid (TmO w3 w.heap.size v3 (st ++ l)) := Lib.hid (TmO.of_own (by rw [List.length_append, HFM.out, flatT_app]; exact hown3))
     go_roundw
     case rel => exact ⟨k + 1, by omega, by go_num, by rw [HNK.out]; exact HT3.out, hb3⟩
     case measure => simp [intOf]; omega
    ·obtain rfl : k = ll.length := by omega
     rw [List.take_of_length_le (Nat.le_refl _)] at ht
     obtain ⟨A8, c8, rfl, _⟩ := ht.shape
     go_wp2_with fail
     go_ret
     exact ⟨⟨_, rfl, ht⟩, hbw⟩
end Go.Proofs.YtaaeekahhhookaaGreatDoor
namespace Go.Proofs.YtaaeekahhhookaaGreatDoor
open Go.Proofs Go.RowKit Go.Lib Go.Shelf
abbrev TN := Fin 1000001
def tnEnc (t : TN) : List Value := tmC t.1
def tnCf (a b : TN) : Int := cmpN a.1 b.1
def tnOf (a : Nat) : TN := ⟨min a 1000000, by omega⟩
theorem tnOf_val {a : Nat} (h : a ≤ 1000000) : (tnOf a).1 = a := by show min a 1000000 = a; omega
theorem below_regrow2 {w w' : World} (h : RowKit.Below w.heap.size w w') (hd : w.drawn ≤ w'.drawn) : ∃ q os', w' = Sort.grow (w.drewN q) os' := by
 obtain ⟨p, hp⟩ := regrown_of_below h
 have e : w'.drawn = p.d := by rw [hp]; rfl
 refine ⟨p.d - w.drawn, p.os, ?_⟩
 have e2 : w.drewN (p.d - w.drawn) = redrawn w p.d := by
  unfold redrawn World.drewN
  congr 1
  omega
 rw [e2, ← hp]
theorem tnLt (a b : TN) : ltOf tnCf a b = decide (a.1 < b.1) := by
 unfold ltOf tnCf cmpN
 split
 ·rename_i h; rw [decide_eq_true h]; rfl
 ·rename_i h
  rw [decide_eq_false h]
  split <;> rfl
theorem tnSwo : Sort.SWO (ltOf tnCf) where
 irrefl x := by rw [tnLt]; simp
 trans x y z h1 h2 := by rw [tnLt] at *; simp only [decide_eq_true_eq] at *; omega
 ntrans x y z h1 h2 := by rw [tnLt] at *; simp only [decide_eq_false_iff_not] at *; omega
theorem tnLays (w : World) (g n : Nat) : CmpLays Tryz.prog 70 #[] tnEnc 2 tnCf g 0 n w := by
 intro m os dk _ x y
 have hC := tCmp_any x.1 y.1 (sortWorldK tnEnc 2 w g 0 m dk os) (by omega) (by omega)
 exact (calls_up hC).mono fun e w' ⟨⟨he, hb2⟩, hd⟩ => ⟨he, below_regrow2 hb2 (hd (by rw [he]; exact fun h => by cases h))⟩
theorem own_putK {w : World} {base g n cap q : Nat} {e : TypeId} {xs : List Value} {F : Array Value} (h : w.ownsRow base e 2 (.slice (some ⟨g, 0, Option.none⟩) n cap) n xs) (hF : F.size = n * 2) :
  (Sort.putRow id (Sort.ahead w q) g 0 F).ownsRow base e 2 (.slice (some ⟨g, 0, Option.none⟩) n cap) n F.toList := by
 rcases h.2 with ⟨e0, _⟩ | ⟨g', cap', cur, e0, hb, hg, hn, hm, hs, ht⟩
 ·cases e0
 ·injection e0 with e1 _ e3
  injection e1 with e1
  injection e1 with e1
  subst e1; subst e3
  refine ⟨by simp; omega, .inr ⟨g, cap, Sort.putCells id 0 F cur, rfl, hb, ?_, by omega, hm, by simpa [Sort.putCells] using hs, ?_⟩⟩
  ·simp [Sort.putRow, Sort.mapBlock, Sort.ahead, Array.getElem?_modify, hg, Sort.onCells]
  ·apply List.ext_getElem?
   intro j
   rw [List.getElem?_take, Array.getElem?_toList]
   by_cases hj : j < n * 2
   ·have hjc : j < cur.size := by have := Nat.mul_le_mul_right 2 hn; omega
    simp only [if_pos hj, Sort.putCells, Array.getElem?_mapIdx, Array.getElem?_eq_getElem hjc, Option.map_some]
    rw [if_pos (by simp; omega)]
    simp [getElem!_pos, show j < F.size by omega]
   ·rw [if_neg hj]
    simp [hF]
    omega
theorem flatK_toList (d : Array TN) : (Sort.flatK tnEnc 2 d).toList = flatT (d.toList.map (·.1)) := by
 have hl : (flatT (d.toList.map (·.1))).length = d.size * 2 := by rw [flatT_len, List.length_map, Array.length_toList]
 apply List.ext_getElem?
 intro j
 by_cases hj : j < d.size * 2
 ·have hk : j / 2 < d.size := by omega
  have hk2 : (d.toList.map (·.1))[j / 2]? = some (d[j / 2]'hk).1 := by rw [List.getElem?_map, Array.getElem?_toList, Array.getElem?_eq_getElem hk]; rfl
  obtain ⟨f0, f1⟩ := flatT_get hk2
  rw [Array.getElem?_toList, Array.getElem?_eq_getElem (by rw [Sort.size_flatK]; exact hj), ← getElem!_pos _ j (by rw [Sort.size_flatK]; exact hj), Sort.get_flatK _ _ _ _ hj, getElem!_pos d _ hk]
  rcases (show (j = j / 2 * 2 ∧ j % 2 = 0) ∨ (j = j / 2 * 2 + 1 ∧ j % 2 = 1) by omega) with ⟨h2, h3⟩ | ⟨h2, h3⟩
  ·rw [h3, show (flatT (d.toList.map (·.1)))[j]? = (flatT (d.toList.map (·.1)))[j / 2 * 2]? from congrArg _ h2, f0]
   rfl
  ·rw [h3, show (flatT (d.toList.map (·.1)))[j]? = (flatT (d.toList.map (·.1)))[j / 2 * 2 + 1]? from congrArg _ h2, f1]
   rfl
 ·rw [List.getElem?_eq_none (by rw [Array.length_toList, Sort.size_flatK]; omega), List.getElem?_eq_none (by omega)]
theorem sortT_any (g c : Nat) (l : List Nat) (w0 w : World) (h0 : RowKit.Below w0.heap.size w0 w) (hown : w.ownsRow w0.heap.size 51 2 (.slice (some ⟨g, 0, Option.none⟩) l.length c) l.length (flatT l)) (hb : ∀ a ∈ l, a ≤ 1000000) (hn : l.length ≤ 10000000) :
  Calls Tryz.prog 69 #[.slice (some ⟨g, 0, Option.none⟩) l.length c, .func (.func 70) #[] #[]] w fun e w' =>
   e = .returned (.tuple #[]) ∧ (∃ l' : List Nat, l'.Perm l ∧ (∀ (i j a b : Nat), i < j → l'[i]? = some a → l'[j]? = some b → a ≤ b) ∧ w'.ownsRow w0.heap.size 51 2 (.slice (some ⟨g, 0, Option.none⟩) l.length c) l.length (flatT l')) ∧ RowKit.Below w0.heap.size w0 w' := by
 obtain ⟨d, hd⟩ : ∃ d : Array TN, d = (l.map tnOf).toArray := ⟨_, rfl⟩
 have hds : d.size = l.length := by rw [hd]; simp
 have hdl : d.toList.map (·.1) = l := by
  rw [hd, List.toList_toArray, List.map_map]
  conv => rhs; rw [← List.map_id l]
  exact List.map_congr_left fun a ha => tnOf_val (hb a ha)
 have hF := flatK_toList d
 rw [hdl] at hF
 obtain ⟨hg1, hg2⟩ := hown.lt g rfl
 have hH : Sort.HoldsK tnEnc 2 w g 0 d := fun j hj => by
  rw [Sort.size_flatK, hds] at hj
  have hj2 : j < (Sort.flatK tnEnc 2 d).size := by rw [Sort.size_flatK, hds]; exact hj
  refine ⟨?_, by rw [Nat.zero_add]; exact hown.frozenAt j⟩
  rw [Nat.zero_add, hown.cellAt j hj, ← hF, Array.getElem?_toList, Array.getElem?_eq_getElem hj2, getElem!_pos _ j hj2]
  rfl
 have h := AnyQ.slices_SortFunc Tryz.srtQ 2 (fun _ => by kernel_rfl) (fun _ => by kernel_rfl) tnEnc (fun _ => rfl) (fun x v hv => by simp [tnEnc, tmC] at hv; rcases hv with rfl | rfl <;> rfl) tnCf tnSwo 70 #[] g 0 c d w (fun args W => enters_of Tryz.func70 (by kernel_rfl) rfl args W) (tnLays w g d.size) hH hg2 (by omega)
 rw [hds] at h
 refine Calls.mono h ?_
 rintro e w' ⟨rfl, d', m, os, ⟨hs', _, hperm⟩, hsort, rfl⟩
 have hs2 : d'.size = l.length := by omega
 have hex : ∀ D : Array TN, D.size = l.length → (D.extract 0 l.length).toList = D.toList := fun D hD => by rw [← hD, Array.extract_size]
 rw [hex d' hs2, hex d hds] at hperm
 have h1 := own_putK (q := m) hown (F := Sort.flatK tnEnc 2 d') (by rw [Sort.size_flatK, hs2])
 rw [flatK_toList] at h1
 have hB1 : RowKit.Below w0.heap.size w0 (Sort.putRow id (Sort.ahead w m) g 0 (Sort.flatK tnEnc 2 d')) := Lib.below_putRow h0 hg1
 refine ⟨rfl, ⟨d'.toList.map (·.1), by rw [← hdl]; exact hperm.map _, fun i j a b hij ha hb2 => ?_, own_below h1 (Lib.below_grow _ _ (Nat.le_refl _) 0 os)⟩, hB1.trans (Lib.below_grow w0.heap.size _ hB1.size 0 os)⟩
 have hjl := (List.getElem?_eq_some_iff.1 hb2).1
 rw [List.length_map, Array.length_toList, hs2] at hjl
 have h5 := hsort i j (Nat.zero_le _) hij hjl
 rw [tnLt, decide_eq_false_iff_not] at h5
 rw [List.getElem?_map, Array.getElem?_toList, Array.getElem?_eq_getElem (by omega)] at ha hb2
 simp at ha hb2
 rw [getElem!_pos d' j (by omega), getElem!_pos d' i (by omega), ha, hb2] at h5
 omega
end Go.Proofs.YtaaeekahhhookaaGreatDoor
namespace Go.Proofs.YtaaeekahhhookaaGreatDoor
open Go.RowKit Go.Lib
theorem rat_eql (a b c d : List UInt8) (w : World) : (binOp .eql 51 (.agg #[.string ⟨a.toArray⟩, .string ⟨b.toArray⟩]) (.agg #[.string ⟨c.toArray⟩, .string ⟨d.toArray⟩])).run Tryz.prog w = .ok (.bool ((a == c) && (b == d))) w := by
 have hS : Tryz.prog.underlying 51 = some (.struct (Tryz.prog.fieldsOf 51)) := by kernel_rfl
 have hp : Tryz.prog.stoodInHeld 51 = false := by kernel_rfl
 rw [run_eql_struct, show (10000 : Nat) = 9999 + 1 from rfl, run_equalIn_agg w 9999 51 _ _ hS hp]
 simp only [Program.fieldsOf, Tryz.underlying51]
 have u := Tryz.underlying49
 cases h1 : (a == c) <;> cases h2 : (b == d)
 all_goals
  go_simp
theorem rat_neq (a b c d : List UInt8) (w : World) : (binOp .neq 51 (.agg #[.string ⟨a.toArray⟩, .string ⟨b.toArray⟩]) (.agg #[.string ⟨c.toArray⟩, .string ⟨d.toArray⟩])).run Tryz.prog w = .ok (.bool (!((a == c) && (b == d)))) w := by
 have hS : Tryz.prog.underlying 51 = some (.struct (Tryz.prog.fieldsOf 51)) := by kernel_rfl
 have hp : Tryz.prog.stoodInHeld 51 = false := by kernel_rfl
 rw [run_neq_struct, show (10000 : Nat) = 9999 + 1 from rfl, run_equalIn_agg w 9999 51 _ _ hS hp]
 simp only [Program.fieldsOf, Tryz.underlying51]
 have u := Tryz.underlying49
 cases h1 : (a == c) <;> cases h2 : (b == d)
 all_goals
  go_simp
theorem t12_beq (a b : Nat) : ((t12n a == t12n b) && (t12d a == t12d b)) = decide (a = b) := by
 by_cases h : a = b
 ·subst h; simp
 ·rw [decide_eq_false h, Bool.eq_false_iff]
  intro h2
  simp only [Bool.and_eq_true, beq_iff_eq] at h2
  exact h (t12_inj (by unfold t12; rw [h2.1, h2.2]))
def kptN (l : List Nat) (j : Nat) : Bool := decide (j = 0 ∨ l[j]? ≠ l[j - 1]?)
def kpN (l : List Nat) (m : Nat) : List Nat := (List.range m).filter (kptN l)
def ddN (l : List Nat) : List Nat := (kpN l l.length).map fun j => l[j]?.getD 0
theorem kn_zero (l : List Nat) : kptN l 0 = true := by simp [kptN]
theorem kn_next {l : List Nat} {j a b : Nat} (h1 : l[j + 1]? = some a) (h0 : l[j]? = some b) : kptN l (j + 1) = !decide (a = b) := by
 unfold kptN
 rw [Nat.add_sub_cancel, h1, h0]
 by_cases h : a = b <;> simp [h]
theorem kpN_succ (l : List Nat) (m : Nat) : kpN l (m + 1) = kpN l m ++ (if kptN l m then [m] else []) := by
 unfold kpN
 rw [List.range_succ, List.filter_append]
 congr 1
 by_cases h : kptN l m <;> simp [h]
theorem kpN_all {l : List Nat} {m : Nat} (h : ∀ j, j < m → kptN l j = true) : kpN l m = List.range m := by
 unfold kpN
 exact List.filter_eq_self.2 fun j hj => h j (List.mem_range.1 hj)
theorem kpN_lt {l : List Nat} {m j : Nat} (h : j ∈ kpN l m) : j < m := List.mem_range.1 (List.mem_filter.1 h).1
theorem ddN_all {l : List Nat} (h : ∀ j, j < l.length → kptN l j = true) : ddN l = l := by
 unfold ddN
 rw [kpN_all h]
 apply List.ext_getElem
 ·simp
 ·intro i h1 h2
  simp [h2]
structure CN (l : List Nat) (cur : List Value) (m kk : Nat) (cur' : List Value) : Prop where
 size : cur'.length = cur.length
 len : (kpN l m).length = kk
 lt : kk < m
 low : ∀ (j i : Nat), (kpN l m)[j]? = some i → cur'[j * 2]? = cur[i * 2]? ∧ cur'[j * 2 + 1]? = cur[i * 2 + 1]?
 high : ∀ (j : Nat), kk * 2 ≤ j → cur'[j]? = cur[j]?
theorem CN.start {l : List Nat} {cur : List Value} {k : Nat} (h : ∀ j, j < k → kptN l j = true) (hk : kptN l k = false) : CN l cur (k + 1) k cur := by
 have e : kpN l (k + 1) = List.range k := by rw [kpN_succ, kpN_all h, hk]; simp
 refine ⟨rfl, by rw [e, List.length_range], by omega, fun j i hj => ?_, fun _ _ => rfl⟩
 rw [e] at hj
 obtain ⟨h1, h2⟩ := List.getElem?_eq_some_iff.1 hj
 rw [List.getElem_range] at h2
 rw [h2]
 exact ⟨rfl, rfl⟩
theorem CN.skip {l : List Nat} {cur cur' : List Value} {m kk : Nat} (h : CN l cur m kk cur') (hm : kptN l m = false) : CN l cur (m + 1) kk cur' := by
 have e : kpN l (m + 1) = kpN l m := by rw [kpN_succ, hm]; simp
 have := h.lt
 exact ⟨h.size, by rw [e]; exact h.len, by omega, by rw [e]; exact h.low, h.high⟩
theorem CN.keep {l : List Nat} {cur cur' : List Value} {m kk : Nat} {u v : Value} (h : CN l cur m kk cur') (hm : kptN l m = true) (hu : cur[m * 2]? = some u) (hv : cur[m * 2 + 1]? = some v) : CN l cur (m + 1) (kk + 1) ((cur'.set (kk * 2) u).set (kk * 2 + 1) v) := by
 have e : kpN l (m + 1) = kpN l m ++ [m] := by rw [kpN_succ, hm]; simp
 have hlt := h.lt
 have hml := (List.getElem?_eq_some_iff.1 hv).1
 have hsz := h.size
 refine ⟨by rw [List.length_set, List.length_set]; exact h.size, by rw [e, List.length_append, h.len]; rfl, by omega, fun j i hj => ?_, fun j hj => ?_⟩
 ·rw [e] at hj
  by_cases hjk : j < kk
  ·rw [List.getElem?_append_left (by rw [h.len]; exact hjk)] at hj
   rw [List.getElem?_set_ne (by omega), List.getElem?_set_ne (by omega), List.getElem?_set_ne (by omega), List.getElem?_set_ne (by omega)]
   exact h.low j i hj
  ·have hjl := (List.getElem?_eq_some_iff.1 hj).1
   rw [List.length_append, h.len] at hjl
   have hjk2 : j = kk := by simp at hjl; omega
   subst hjk2
   rw [List.getElem?_append_right (by rw [h.len]; exact Nat.le_refl _), h.len, Nat.sub_self] at hj
   cases hj
   rw [List.getElem?_set_ne (by omega), List.getElem?_set_self (by omega), List.getElem?_set_self (by rw [List.length_set]; omega), hu, hv]
   exact ⟨rfl, rfl⟩
 ·rw [List.getElem?_set_ne (by omega), List.getElem?_set_ne (by omega)]
  exact h.high j (by omega)
theorem CN.done {l : List Nat} {cur cur' : List Value} {kk : Nat} (h : CN l cur l.length kk cur') (hc : cur.take (l.length * 2) = flatT l) (_hl : l.length * 2 ≤ cur.length) : (ddN l).length = kk ∧ cur'.take (kk * 2) = flatT (ddN l) := by
 have hlen : (ddN l).length = kk := by unfold ddN; rw [List.length_map]; exact h.len
 refine ⟨hlen, ?_⟩
 have hlt := h.lt
 have hsz := h.size
 apply List.ext_getElem?
 intro j
 by_cases hj : j < kk * 2
 ·have hjk : j / 2 < (kpN l l.length).length := by rw [h.len]; omega
  obtain ⟨i, hi0⟩ : ∃ i, (kpN l l.length)[j / 2]? = some i := ⟨_, List.getElem?_eq_getElem hjk⟩
  have hi := kpN_lt (List.mem_of_getElem? hi0)
  obtain ⟨l0, l1⟩ := h.low (j / 2) i hi0
  obtain ⟨f0, f1⟩ := flatT_get (List.getElem?_eq_getElem hi)
  have hd : (ddN l)[j / 2]? = some (l[i]'hi) := by
   unfold ddN
   rw [List.getElem?_map, hi0, Option.map_some, List.getElem?_eq_getElem hi]
   rfl
  obtain ⟨d0, d1⟩ := flatT_get hd
  rw [← hc, List.getElem?_take_of_lt (by omega)] at f0 f1
  rw [List.getElem?_take_of_lt hj]
  rcases (show j = j / 2 * 2 ∨ j = j / 2 * 2 + 1 by omega) with h2 | h2
  ·rw [show cur'[j]? = cur'[j / 2 * 2]? from congrArg _ h2, show (flatT (ddN l))[j]? = (flatT (ddN l))[j / 2 * 2]? from congrArg _ h2, l0, f0, d0]
  ·rw [show cur'[j]? = cur'[j / 2 * 2 + 1]? from congrArg _ h2, show (flatT (ddN l))[j]? = (flatT (ddN l))[j / 2 * 2 + 1]? from congrArg _ h2, l1, f1, d1]
 ·rw [List.getElem?_eq_none (by rw [List.length_take]; omega), List.getElem?_eq_none (by rw [flatT_len, hlen]; omega)]
theorem own_parts2 {w : World} {base g n c : Nat} {e : TypeId} {vs : List Value} (h : w.ownsRow base e 2 (.slice (some ⟨g, 0, Option.none⟩) n c) n vs) : ∃ cs : List Value, Cells w g e cs ∧ base ≤ g ∧ n ≤ c ∧ c ≤ maxLen ∧ cs.length = c * 2 ∧ cs.take (n * 2) = vs := by
 rcases h.2 with ⟨e, _⟩ | ⟨g', cap, cur, e, h1, h2, h3, h4, h5, h6⟩
 ·cases e
 ·cases e
  exact ⟨cur.toList, h2, h1, h3, h4, by rw [Array.length_toList]; omega, h6⟩
theorem own_of2 {w : World} {base g n c : Nat} {e : TypeId} {cs : List Value} (h : Cells w g e cs) (hb : base ≤ g) (hn : n ≤ c) (hc : c ≤ maxLen) (hl : cs.length = c * 2) : w.ownsRow base e 2 (.slice (some ⟨g, 0, Option.none⟩) n c) n (cs.take (n * 2)) :=
 ⟨by rw [List.length_take]; omega, .inr ⟨g, c, cs.toArray, rfl, hb, h, hn, hc, by simp [hl], by simp⟩⟩
theorem run_clear_two (P : Program) (w : World) (t e ty : TypeId) (a b : Value) (ht : P.underlying t = some (.slice e)) (hv : ∀ w, (zeroValue e).run P w = .ok (.agg #[a, b]) w) (h1 : a.oneCell' = true) (h2 : b.oneCell' = true) (g o n c : Nat) (hn : 0 < n)
  (hc : ∀ j, j < n * 2 → (w.cell? ⟨g, o + j, Option.none⟩).isSome = true) (hf : ∀ j, j < n * 2 → w.frozen? ⟨g, o + j, Option.none⟩ = false) :
  (Builtin.clear_ #[t] ty #[.slice (some ⟨g, o, Option.none⟩) n c]).run P w = .ok (.tuple #[]) (w.setCells g o (Builtin.zeroCells #[a, b] n).toList) := by
 have hlen : (Builtin.zeroCells #[a, b] n).toList.length = n * 2 := by rw [Array.length_toList, size_zeroCells]; rfl
 have hst := run_storeCells_cells (P := P) g o (Builtin.zeroCells #[a, b] n).toList 0 w (by rw [hlen]; simpa using hc) (by rw [hlen]; simpa using hf) (by
  intro v hv'
  obtain ⟨j, hj, rfl⟩ := List.getElem_of_mem hv'
  rw [hlen] at hj
  simp only [Builtin.zeroCells, Array.getElem_toList, Array.getElem_map, Array.getElem_range]
  rcases (show j % 2 = 0 ∨ j % 2 = 1 by omega) with h | h
  ·simp [h, h1]
  ·simp [h, h2])
 simp only [Nat.add_zero] at hst
 obtain ⟨m, rfl⟩ : ∃ m, n = m + 1 := ⟨n - 1, by omega⟩
 have hz : (Value.agg #[a, b]).cells = #[a, b] := rfl
 simp [Builtin.clear_, run_underlying ht, hv, hz, hst]
set_option maxRecDepth 100000 in
set_option maxHeartbeats 8000000 in
theorem compactT_any (g c : Nat) (l : List Nat) (w0 w : World) (h0 : Below w0.heap.size w0 w) (hown : w.ownsRow w0.heap.size 51 2 (.slice (some ⟨g, 0, Option.none⟩) l.length c) l.length (flatT l)) (hn : l.length ≤ 10000000) :
  Calls Tryz.prog 71 #[.slice (some ⟨g, 0, Option.none⟩) l.length c] w fun e w' => (∃ v, e = .returned v ∧ TmO w' w0.heap.size v (ddN l)) ∧ Below w0.heap.size w0 w' := by
 have HOW := Lib.hid hown
 have HB0 := Lib.hid h0
 obtain ⟨cs, hcs, hgb, hnc, hcm, hcl, htk⟩ := own_parts2 hown
 have HCS : Box (Cells w g 51 cs) := ⟨hcs⟩
 have HTK : Box (cs.take (l.length * 2) = flatT l) := ⟨htk⟩
 have HCL : Box (cs.length = c * 2) := ⟨hcl⟩
 have HG : Box (w0.heap.size ≤ g) := ⟨hgb⟩
 have HAT : Box (∀ k a, l[k]? = some a → cs[k * 2]? = some (.string ⟨(t12n a).toArray⟩) ∧ cs[k * 2 + 1]? = some (.string ⟨(t12d a).toArray⟩)) := ⟨fun k a h => by
  have hk := (List.getElem?_eq_some_iff.1 h).1
  obtain ⟨f0, f1⟩ := flatT_get h
  rw [← htk, List.getElem?_take_of_lt (by omega)] at f0 f1
  exact ⟨f0, f1⟩⟩
 unfold maxLen at hcm
 clear h0 hown hcs htk hcl hgb
 by_cases h2 : l.length < 2
 ·have hd : ddN l = l := ddN_all fun j hj => by
   obtain rfl : j = 0 := by omega
   exact kn_zero l
  have HD := Lib.hid hd
  clear hd
  go_enter Tryz.func71, Tryz.ntmps71
  go_wp2_with fail
  go_ret
  rw [HD.out]
  exact ⟨⟨_, rfl, TmO.of_own HOW.out⟩, HB0.out⟩
 ·go_enter Tryz.func71, Tryz.ntmps71
  go_wp2_with fail
  go_loopw [3] (fun i wr => ∃ k : Nat, 1 ≤ k ∧ k ≤ l.length ∧ i = .int .i64 k ∧ Box (∀ j, j < k → kptN l j = true) ∧ Box (Cells wr g 51 cs) ∧ Below w0.heap.size w0 wr) (fun i _ => l.length - (intOf i).toNat)
  case atStart => exact ⟨1, by omega, by omega, rfl, ⟨fun j hj => by obtain rfl : j = 0 := by omega
                                                                     exact kn_zero l⟩, ⟨HCS.out⟩, HB0.out⟩
  case round =>
   clear HB0 HCS HOW
   obtain ⟨k0, hk1, hk, rfl, HK, HCW, hbw⟩ := hrel
   obtain ⟨k, rfl⟩ : ∃ k, k0 = k + 1 := ⟨k0 - 1, by omega⟩
   by_cases hlt : k + 1 < l.length
   ·obtain ⟨a, ha⟩ : ∃ a, l[k + 1]? = some a := ⟨_, List.getElem?_eq_getElem hlt⟩
    obtain ⟨b, hb⟩ : ∃ b, l[k]? = some b := ⟨_, List.getElem?_eq_getElem (by omega)⟩
    have HKN : Box (kptN l (k + 1) = !decide (a = b)) := ⟨kn_next ha hb⟩
    obtain ⟨p0, p1⟩ := HAT.out _ _ ha
    obtain ⟨q0, q1⟩ := HAT.out _ _ hb
    have x0 := (HCW.out.cell ((k + 1) * 2)).trans p0
    have x1 := (HCW.out.cell ((k + 1) * 2 + 1)).trans p1
    have y0 := (HCW.out.cell (k * 2)).trans q0
    have y1 := (HCW.out.cell (k * 2 + 1)).trans q1
    have hre : ∀ W, (binOp .eql 51 (.agg #[.string ⟨(t12n a).toArray⟩, .string ⟨(t12d a).toArray⟩]) (.agg #[.string ⟨(t12n b).toArray⟩, .string ⟨(t12d b).toArray⟩])).run Tryz.prog W = .ok (.bool (decide (a = b))) W := fun W => by rw [rat_eql, t12_beq]
    have hw1 : IntKind.i64.wrap (((k + 1 : Nat) : Int) - 1) = (k : Int) := by rw [show ((k + 1 : Nat) : Int) - 1 = (k : Int) by omega]; exact IntWalk.i64_in _ (by omega)
    have hw0 : IntKind.i64.wrap (k : Int) = (k : Int) := IntWalk.i64_in _ (by omega)
    have hi1 : (0 : Int) ≤ (k : Int) + 1 := by omega
    have hi2 : (k : Int) + 1 < (l.length : Int) := by omega
    have hi3 : (0 : Int) ≤ (k : Int) := by omega
    have hi4 : (k : Int) < (l.length : Int) := by omega
    have HB := Lib.hid hbw
    have hglt := HCW.out.lt
    clear hbw ha hb p0 p1 q0 q1
    by_cases hab : a = b
    ·have HST : Box (CN l cs (k + 1 + 1) (k + 1) cs) := ⟨CN.start HK.out (by rw [HKN.out, decide_eq_true hab]; rfl)⟩
     have hre2 : ∀ W, (binOp .eql 51 (.agg #[.string ⟨(t12n a).toArray⟩, .string ⟨(t12d a).toArray⟩]) (.agg #[.string ⟨(t12n b).toArray⟩, .string ⟨(t12d b).toArray⟩])).run Tryz.prog W = .ok (.bool true) W := fun W => by rw [hre, decide_eq_true hab]
     clear hre HKN HK hab
     generalize t12n a = an at *
     generalize t12d a = ad at *
     generalize t12n b = bn at *
     generalize t12d b = bd at *
     go_wp2_with fail
     go_quiet (fail)
     have HCN : Box (Cells (wr.drewN nq) g 51 cs) := ⟨HCW.out.drewN _⟩
     have HBN : Hid (Below w0.heap.size w0 (wr.drewN nq)) := Lib.hid (below_drewN HB.out _)
     have HLT := Lib.hid hlt
     clear HCW x0 x1 y0 y1 hre2 HB
     rename World => W5
     go_wp2_with fail
     go_loopw [3, 5] (fun a b wr => ∃ (kk k2 : Nat) (cs' : List Value), 1 ≤ k2 ∧ k + 1 + k2 ≤ l.length ∧ a = .int .i64 kk ∧ b = .int .i64 k2 ∧ Box (CN l cs (k + 1 + k2) kk cs') ∧ Box (Cells wr g 51 cs') ∧ Below w0.heap.size w0 wr) (fun _ b _ => l.length - (intOf b).toNat)
     case atStart => exact ⟨k + 1, 1, cs, Nat.le_refl _, by omega, by go_num, rfl, ⟨HST.out⟩, ⟨HCN.out⟩, HBN.out⟩
     case round =>
      clear HST HCN HBN
      obtain ⟨kk, k20, cs', hk21, hke, rfl, rfl, HCI, HC2, hbw2⟩ := hrel
      obtain ⟨k2, rfl⟩ : ∃ k2, k20 = k2 + 1 := ⟨k20 - 1, by omega⟩
      have hkk := HCI.out.lt
      have hsz := HCI.out.size
      have hcl := HCL.out
      by_cases hlt2 : k + 1 + (k2 + 1) < l.length
      ·obtain ⟨a, ha⟩ : ∃ a, l[k + 1 + k2 + 1]? = some a := ⟨_, List.getElem?_eq_getElem (by omega)⟩
       obtain ⟨b, hb⟩ : ∃ b, l[k + 1 + k2]? = some b := ⟨_, List.getElem?_eq_getElem (by omega)⟩
       have HKN : Box (kptN l (k + 1 + k2 + 1) = !decide (a = b)) := ⟨kn_next ha hb⟩
       obtain ⟨p0, p1⟩ := HAT.out _ _ ha
       obtain ⟨q0, q1⟩ := HAT.out _ _ hb
       have x0 : wr.cell? ⟨g, (k + 1) * 2 + (k2 + 1) * 2, Option.none⟩ = some (.string ⟨(t12n a).toArray⟩) := by rw [HC2.out.cell, HCI.out.high _ (by omega), ← p0]; congr 1; omega
       have x1 : wr.cell? ⟨g, (k + 1) * 2 + (k2 + 1) * 2 + 1, Option.none⟩ = some (.string ⟨(t12d a).toArray⟩) := by rw [HC2.out.cell, HCI.out.high _ (by omega), ← p1]; congr 1; omega
       have y0 : wr.cell? ⟨g, (k + 1) * 2 + k2 * 2, Option.none⟩ = some (.string ⟨(t12n b).toArray⟩) := by rw [HC2.out.cell, HCI.out.high _ (by omega), ← q0]; congr 1; omega
       have y1 : wr.cell? ⟨g, (k + 1) * 2 + k2 * 2 + 1, Option.none⟩ = some (.string ⟨(t12d b).toArray⟩) := by rw [HC2.out.cell, HCI.out.high _ (by omega), ← q1]; congr 1; omega
       have hre : ∀ W, (binOp .neq 51 (.agg #[.string ⟨(t12n a).toArray⟩, .string ⟨(t12d a).toArray⟩]) (.agg #[.string ⟨(t12n b).toArray⟩, .string ⟨(t12d b).toArray⟩])).run Tryz.prog W = .ok (.bool (!decide (a = b))) W := fun W => by rw [rat_neq, t12_beq]
       have hw2 : IntKind.i64.wrap (((k2 + 1 : Nat) : Int) - 1) = (k2 : Int) := by rw [show ((k2 + 1 : Nat) : Int) - 1 = (k2 : Int) by omega]; exact IntWalk.i64_in _ (by omega)
       have hw20 : IntKind.i64.wrap (k2 : Int) = (k2 : Int) := IntWalk.i64_in _ (by omega)
       have hj1 : (0 : Int) ≤ (k2 : Int) + 1 := by omega
       have hj2 : (k2 : Int) + 1 < ((l.length - (k + 1) : Nat) : Int) := by omega
       have hj3 : (0 : Int) ≤ (k2 : Int) := by omega
       have hj4 : (k2 : Int) < ((l.length - (k + 1) : Nat) : Int) := by omega
       have HP0 : Box (cs[(k + 1 + k2 + 1) * 2]? = some (.string ⟨(t12n a).toArray⟩)) := ⟨p0⟩
       have HP1 : Box (cs[(k + 1 + k2 + 1) * 2 + 1]? = some (.string ⟨(t12d a).toArray⟩)) := ⟨p1⟩
       have HB := Lib.hid hbw2
       clear hbw2 ha hb p0 p1 q0 q1
       by_cases hab : a = b
       ·have HCI2 : Box (CN l cs (k + 1 + (k2 + 1 + 1)) kk cs') := ⟨HCI.out.skip (by rw [show k + 1 + (k2 + 1) = k + 1 + k2 + 1 by omega, HKN.out, decide_eq_true hab]; rfl)⟩
        have hre2 : ∀ W, (binOp .neq 51 (.agg #[.string ⟨(t12n a).toArray⟩, .string ⟨(t12d a).toArray⟩]) (.agg #[.string ⟨(t12n b).toArray⟩, .string ⟨(t12d b).toArray⟩])).run Tryz.prog W = .ok (.bool false) W := fun W => by rw [hre, decide_eq_true hab]; rfl
        clear hre HKN HCI hab
        generalize t12n a = an at *
        generalize t12d a = ad at *
        generalize t12n b = bn at *
        generalize t12d b = bd at *
        go_wp2_with fail
        go_quiet (fail)
        have HCN : Box (Cells (wr.drewN nq) g 51 cs') := ⟨HC2.out.drewN _⟩
        have HBN : Hid (Below w0.heap.size w0 (wr.drewN nq)) := Lib.hid (below_drewN HB.out _)
        clear x0 x1 y0 y1 hre2
        go_wp2_with fail
        go_roundw
        case rel => exact ⟨kk, k2 + 2, cs', by omega, by omega, rfl, by go_num, HCI2, HCN, HBN.out⟩
        case measure => simp [intOf]; omega
       ·have HCI2 : Box (CN l cs (k + 1 + (k2 + 1 + 1)) (kk + 1) ((cs'.set (kk * 2) (.string ⟨(t12n a).toArray⟩)).set (kk * 2 + 1) (.string ⟨(t12d a).toArray⟩))) := ⟨HCI.out.keep (by rw [show k + 1 + (k2 + 1) = k + 1 + k2 + 1 by omega, HKN.out, decide_eq_false hab]; rfl) HP0.out HP1.out⟩
        have hre2 : ∀ W, (binOp .neq 51 (.agg #[.string ⟨(t12n a).toArray⟩, .string ⟨(t12d a).toArray⟩]) (.agg #[.string ⟨(t12n b).toArray⟩, .string ⟨(t12d b).toArray⟩])).run Tryz.prog W = .ok (.bool true) W := fun W => by rw [hre, decide_eq_false hab]; rfl
        clear hre HKN HCI hab HP0 HP1
        generalize t12n a = an at *
        generalize t12d a = ad at *
        generalize t12n b = bn at *
        generalize t12d b = bd at *
        go_wp2_with fail
        go_quiet (fail)
        have HCN : Box (Cells (wr.drewN nq) g 51 cs') := ⟨HC2.out.drewN _⟩
        have HBN : Hid (Below w0.heap.size w0 (wr.drewN nq)) := Lib.hid (below_drewN HB.out _)
        have f0 := HCN.out.free (kk * 2)
        have f1 := HCN.out.free (kk * 2 + 1)
        have s0 := HCN.out.cell (kk * 2)
        have s1 := HCN.out.cell (kk * 2 + 1)
        rw [List.getElem?_eq_getElem (by omega)] at s0 s1
        go_wp2_with fail
        go_roundw
        case rel => exact ⟨kk + 1, k2 + 2, _, by omega, by omega, by go_num, by go_num, HCI2, ⟨(HCN.out.set (kk * 2) _).set (kk * 2 + 1) _⟩, (HBN.out.setCell (p := ⟨g, kk * 2, Option.none⟩) HG.out _).setCell (p := ⟨g, kk * 2 + 1, Option.none⟩) HG.out _⟩
        case measure => simp [intOf]; omega
      ·have hend : k + 1 + (k2 + 1) = l.length := by omega
       obtain ⟨q1, q2⟩ := CN.done (by have := HCI.out; rw [hend] at this; exact this) HTK.out (by omega)
       have Q1 := Lib.hid q1
       have Q2 : Box (cs'.take (kk * 2) = flatT (ddN l)) := ⟨q2⟩
       obtain ⟨ys, z1, z2, z3⟩ := Cells.puts (Builtin.zeroCells #[.string ⟨#[]⟩, .string ⟨#[]⟩] (l.length - kk)).toList (kk * 2) HC2.out
       have Z1 : Box (Cells (wr.setCells g (kk * 2) (Builtin.zeroCells #[.string ⟨#[]⟩, .string ⟨#[]⟩] (l.length - kk)).toList) g 51 ys) := ⟨z1⟩
       have Z3 : Hid (ys.take (kk * 2) = cs'.take (kk * 2)) := Lib.hid (by
        refine List.ext_getElem? fun j => ?_
        by_cases hj : j < kk * 2
        ·rw [List.getElem?_take_of_lt hj, List.getElem?_take_of_lt hj, z3 j hj]
        ·rw [List.getElem?_eq_none (by rw [List.length_take]; omega), List.getElem?_eq_none (by rw [List.length_take]; omega)])
       have hcr : ∀ ty, (Builtin.clear_ #[65] ty #[.slice (some ⟨g, kk * 2, Option.none⟩) (l.length - kk) (c - kk)]).run Tryz.prog wr = .ok (.tuple #[]) (wr.setCells g (kk * 2) (Builtin.zeroCells #[.string ⟨#[]⟩, .string ⟨#[]⟩] (l.length - kk)).toList) :=
        fun ty => run_clear_two Tryz.prog wr 65 51 ty _ _ Tryz.underlying65 (fun _ => by kernel_rfl) rfl rfl g (kk * 2) _ _ (by omega) (fun j hj => by rw [HC2.out.cell, List.getElem?_eq_getElem (by omega)]; rfl) (fun j hj => HC2.out.free _)
       have HBX := Lib.hid hbw2
       have HZL : Box (ys.length = c * 2) := ⟨by rw [z2]; omega⟩
       clear hbw2 q1 q2 z1 z2 z3 HCI
       generalize (Builtin.zeroCells #[.string ⟨#[]⟩, .string ⟨#[]⟩] (l.length - kk)).toList = zs at *
       go_wp2_with fail
       go_ret
       refine ⟨⟨_, rfl, TmO.of_own ?_⟩, below_puts HG.out _ _ HBX.out⟩
       have h := own_of2 (n := kk) (c := c) Z1.out HG.out (by omega) (by unfold maxLen; omega) HZL.out
       rw [Z3.out, Q2.out] at h
       rw [Q1.out]
       exact h
    ·have HKK : Box (∀ j, j < k + 2 → kptN l j = true) := ⟨fun j hj => by
      by_cases e : j = k + 1
      ·subst e; rw [HKN.out, decide_eq_false hab]; rfl
      ·exact HK.out j (by omega)⟩
     have hre2 : ∀ W, (binOp .eql 51 (.agg #[.string ⟨(t12n a).toArray⟩, .string ⟨(t12d a).toArray⟩]) (.agg #[.string ⟨(t12n b).toArray⟩, .string ⟨(t12d b).toArray⟩])).run Tryz.prog W = .ok (.bool false) W := fun W => by rw [hre, decide_eq_false hab]
     clear hre HKN HK hab
     generalize t12n a = an at *
     generalize t12d a = ad at *
     generalize t12n b = bn at *
     generalize t12d b = bd at *
     go_wp2_with fail
     go_quiet (fail)
     have HCN : Box (Cells (wr.drewN nq) g 51 cs) := ⟨HCW.out.drewN _⟩
     have HBN : Hid (Below w0.heap.size w0 (wr.drewN nq)) := Lib.hid (below_drewN HB.out _)
     clear x0 x1 y0 y1 hre2
     go_wp2_with fail
     go_roundw
     case rel => exact ⟨k + 2, by omega, by omega, by go_num, HKK, HCN, HBN.out⟩
     case measure => simp [intOf]; omega
   ·have hkl : k + 1 = l.length := by omega
    have HD : Hid (ddN l = l) := Lib.hid (ddN_all fun j hj => HK.out j (by omega))
    clear HK
    go_wp2_with fail
    go_ret
    rw [HD.out]
    exact ⟨⟨_, rfl, TmO.of_own (by rw [← HTK.out]; exact own_of2 HCW.out HG.out hnc (by unfold maxLen; omega) HCL.out)⟩, hbw⟩
end Go.Proofs.YtaaeekahhhookaaGreatDoor
