import Derived.Test.YtaaeekahhhookaaGreatDoorGXPMCk
import Derived.Test.YtaaeekahhhookaaGreatDoorREqCk
import Derived.Laws.StructEq
import Derived.Test.YtaaeekahhhookaaGreatDoorFSgMCk
import Derived.Test.YtaaeekahhhookaaGreatDoorSayMCk
import Derived.Shelf.Strings.Builder1
namespace Go.Proofs.YtaaeekahhhookaaGreatDoor
open Go.RowKit Go.Lib
def tokZA : Value := .agg #[.int .i64 0, .string ⟨#[]⟩, .string ⟨#[]⟩, .string ⟨#[]⟩, .slice Option.none 0 0, .int .i64 0, .int .i64 0]
theorem cells7 {w : World} {g : Nat} {T : TypeId} {a0 a1 a2 a3 a4 a5 a6 : Value} (h : Cells w g T [a0, a1, a2, a3, a4, a5, a6]) :
  (w.cell? ⟨g, 0, Option.none⟩ = some a0 ∧ w.cell? ⟨g, 1, Option.none⟩ = some a1 ∧ w.cell? ⟨g, 2, Option.none⟩ = some a2 ∧ w.cell? ⟨g, 3, Option.none⟩ = some a3 ∧ w.cell? ⟨g, 4, Option.none⟩ = some a4 ∧ w.cell? ⟨g, 5, Option.none⟩ = some a5 ∧ w.cell? ⟨g, 6, Option.none⟩ = some a6) ∧
  (w.frozen? ⟨g, 0, Option.none⟩ = false ∧ w.frozen? ⟨g, 1, Option.none⟩ = false ∧ w.frozen? ⟨g, 2, Option.none⟩ = false ∧ w.frozen? ⟨g, 3, Option.none⟩ = false ∧ w.frozen? ⟨g, 4, Option.none⟩ = false ∧ w.frozen? ⟨g, 5, Option.none⟩ = false ∧ w.frozen? ⟨g, 6, Option.none⟩ = false) :=
 ⟨⟨h.cell 0, h.cell 1, h.cell 2, h.cell 3, h.cell 4, h.cell 5, h.cell 6⟩, h.free 0, h.free 1, h.free 2, h.free 3, h.free 4, h.free 5, h.free 6⟩
theorem IsRow.cut {w : World} {B k c n : Nat} {A : Option Addr} {x : List Int} (h : IsRow w B (.slice A n c) x) (hk : k ≤ x.length) : IsRow w B (.slice A k c) (x.take k) := by
 obtain ⟨A', c', e, h1, h2, h3⟩ := h
 injection e with e1 _ e3
 subst e1 e3
 have hl : (x.take k).length = k := by rw [List.length_take]; omega
 refine ⟨A, c, by rw [hl], by omega, h2, ?_⟩
 rw [hl, show is (x.take k) = (is x).take k by unfold is; rw [List.map_take]]
 exact h3.take hk
theorem TRow.set {w : World} {v : Value} {x : List Int} (h : TRow w v x) {g k : Nat} {T : TypeId} {xs : List Value} (hc : Cells w g T xs) (hT : T ≠ 3) (u : Value) : TRow (w.setCell ⟨g, k, Option.none⟩ u) v x := h.keep fun g' cur p hcur => Below.heap_setCell _ _ _ _ (fun e => by
 change g' = g at e
 subst e
 unfold Cells at hc
 rw [hc] at hcur
 injection hcur with hcur
 injection hcur with _ hcur _
 exact hT hcur)
theorem TRow.cut {w : World} {k c n : Nat} {A : Option Addr} {x : List Int} (h : TRow w (.slice A n c) x) (hk : k ≤ x.length) : TRow w (.slice A k c) (x.take k) := by
 obtain ⟨A', c', e, h1, h2, h3⟩ := h
 injection e with e1 _ e3
 subst e1 e3
 have hl : (x.take k).length = k := by rw [List.length_take]; omega
 refine ⟨A, c, by rw [hl], by omega, h2, fun h0 => ?_⟩
 obtain ⟨g, o, cur, p, ha, hg, hc⟩ := h3 (by omega)
 refine ⟨g, o, cur, p, ha, hg, fun j hj => ?_⟩
 rw [hl] at hj
 rw [hc j (by omega), List.getElem?_take, if_pos hj]
def pcsI (n : Nat) : List Int := (pcs n).map Int.ofNat
theorem IsToks.at_ {w : World} {B : Nat} {A : Option Addr} {n c k : Nat} {l : List Tok} (h : IsToks w B (.slice A n c) l) (hk : k < l.length) : ∃ b o rv, A = some ⟨b, o, Option.none⟩ ∧ b < B ∧ IsRow w B rv (l[k]'hk).row ∧ ∀ j, j < 7 → w.cell? ⟨b, o + k * 7 + j, Option.none⟩ = (tokVals (l[k]'hk) rv)[j]? := by
 obtain ⟨A', c', rvs, e, h1, h2, h3, h4, h5⟩ := h
 injection e with e1 e2 e3
 subst e1
 have hr : k < rvs.length := by omega
 have hget : ∀ j, j < 7 → ∃ ad, A = some ad ∧ ad.block < B ∧ w.cell? (ad.add (k * 7 + j)) = (tokVals (l[k]'hk) (rvs[k]'hr))[j]? := by
  intro j hj
  have hf := flat_get l rvs k _ _ j h3 (List.getElem?_eq_getElem hk) (List.getElem?_eq_getElem hr) hj
  have hs : (tokVals (l[k]'hk) (rvs[k]'hr))[j]? = some ((tokVals (l[k]'hk) (rvs[k]'hr))[j]'(by show j < 7; exact hj)) := List.getElem?_eq_getElem _
  rw [hs] at hf ⊢
  obtain ⟨ad, ha, hb, hc⟩ := h4.get _ _ hf
  exact ⟨ad, ha, hb, hc⟩
 obtain ⟨ad, rfl, hb, hc0⟩ := hget 0 (by omega)
 have hpl : ∃ b o, ad = ⟨b, o, Option.none⟩ := by
  have h0l : 0 < (flat l rvs).length := by rw [flat_len l rvs h3]; omega
  obtain ⟨ad2, e2, _, hc2⟩ := h4.get 0 _ (List.getElem?_eq_getElem h0l)
  injection e2 with e2
  subst e2
  have hz : ad.add 0 = ad := by unfold Addr.add; simp
  rw [hz] at hc2
  exact addr_plain hc2
 obtain ⟨b, o, rfl⟩ := hpl
 refine ⟨b, o, rvs[k]'hr, rfl, hb, h5 k _ _ (List.getElem?_eq_getElem hk) (List.getElem?_eq_getElem hr), fun j hj => ?_⟩
 obtain ⟨ad, e, _, hc⟩ := hget j hj
 injection e with e
 subst e
 rw [Lib.add_plain, ← Nat.add_assoc] at hc
 exact hc
theorem Tryz.info_byte : (Tryz.prog.info? 5).map (fun i => (i.zero, i.size, i.bytes)) = some (some (.int .u8 0), 1, 1) := by kernel_rfl
theorem Tryz.size_builder : (Tryz.prog.info? 128).map (fun i => i.size) = some 2 := by kernel_rfl
set_option maxHeartbeats 1000000 in
set_option maxRecDepth 100000 in
theorem copyCheck_used (b : Nat) (w : World) (h0 : w.cell? ⟨b, 0, Option.none⟩ = some (.pointer (some ⟨b, 0, Option.none⟩))) :
  Calls Tryz.prog 98 #[.pointer (some ⟨b, 0, Option.none⟩)] w fun e w' => e = .returned (.tuple #[]) ∧ w' = w := by
 obtain ⟨j, hj, _⟩ := Option.map_eq_some_iff.1 Tryz.size_builder
 go_enter Tryz.func98, Tryz.ntmps98
 go_wp2
 rw [Lib.run_neq_ptr_same w _ Tryz.underlying126 hj]
 go_wp2
 go_end0
 exact ⟨rfl, rfl⟩
set_option maxHeartbeats 1000000 in
set_option maxRecDepth 100000 in
theorem copyCheck_fresh (b : Nat) (w : World) (h0 : w.cell? ⟨b, 0, Option.none⟩ = some (.pointer Option.none)) (hsh : w.shape? b = some (128, 2)) (hfz : w.frozen? ⟨b, 0, Option.none⟩ = false) :
  Calls Tryz.prog 98 #[.pointer (some ⟨b, 0, Option.none⟩)] w fun e w' => e = .returned (.tuple #[]) ∧ w' = w.setCell ⟨b, 0, Option.none⟩ (.pointer (some ⟨b, 0, Option.none⟩)) := by
 obtain ⟨j, hj, hjs⟩ := Option.map_eq_some_iff.1 Tryz.size_builder
 go_enter Tryz.func98, Tryz.ntmps98
 go_wp2
 rw [Lib.run_to_unsafe w ⟨b, 0, Option.none⟩ Tryz.underlying126 Tryz.underlying215 hj (by rw [hjs]; decide) hsh (Nat.zero_lt_succ 1)]
 simp only [Result.andThen]
 rw [Oper.upon_value]
 go_wp2
 rw [run_callFunc_extern Tryz.func137 (by kernel_rfl) (by kernel_rfl) (by kernel_rfl) (e := Extern.AbiNoEscape.same) (by kernel_rfl)]
 rw [Lib.run_noEscape]
 simp only [Result.andThen]
 rw [Oper.upon_value]
 go_wp2
 rw [Lib.run_from_unsafe w ⟨b, 0, Option.none⟩ Tryz.underlying215 Tryz.underlying126 hj hsh (by kernel_rfl)]
 simp only [Result.andThen]
 rw [Oper.upon_value]
 go_wp2
 go_end0
 exact ⟨rfl, rfl⟩
def KeepB (w w' : World) : Prop := ∀ (g : Nat) (cur : Array Value) (T : TypeId) (p : Nat × Nat), w.heap[g]? = some (Obj.cells cur T p) → T ≠ 5 → T ≠ 128 → w'.heap[g]? = some (Obj.cells cur T p)
theorem KeepB.refl (w : World) : KeepB w w := fun _ _ _ _ h _ _ => h
theorem KeepB.trans {a b c : World} (h : KeepB a b) (k : KeepB b c) : KeepB a c := fun g cur T p h1 h2 h3 => k g cur T p (h g cur T p h1 h2 h3) h2 h3
theorem KeepB.alloc {a b : World} (h : KeepB a b) (o : Obj) : KeepB a (b.alloc o) := fun g cur T p h1 h2 h3 => by
 have h4 := h g cur T p h1 h2 h3
 rw [Below.heap_alloc b o g (Array.getElem?_eq_some_iff.1 h4).1]
 exact h4
theorem KeepB.set {a b : World} (h : KeepB a b) {k i : Nat} {cur0 : Array Value} {p0 : Nat × Nat} (hk : b.heap[k]? = some (Obj.cells cur0 128 p0)) (u : Value) : KeepB a (b.setCell ⟨k, i, Option.none⟩ u) := fun g cur T p h1 h2 h3 => by
 have h4 := h g cur T p h1 h2 h3
 rw [Below.heap_setCell _ _ _ _ (fun e => by
  change g = k at e
  subst e
  rw [hk] at h4
  injection h4 with h4
  injection h4 with _ h4 _
  exact h3 h4.symm)]
 exact h4
theorem KeepB.grown {a b c : World} (h : KeepB a b) {base n size : Nat} {u : Value} {xs : List Value} (ho : b.ownsRow base 5 size u n xs) (hg : b.grownBy c u.ownBlock) : KeepB a c := fun g cur T p h1 h2 h3 => by
 have h4 := h g cur T p h1 h2 h3
 rw [hg.block g (Array.getElem?_eq_some_iff.1 h4).1 (fun hu => by
  rcases ho.2 with ⟨rfl, _⟩ | ⟨g', cap, cur', rfl, _, hg', _⟩
  ·cases hu
  ·injection hu with hu
   change g = g' at hu
   subst hu
   rw [h4] at hg'
   injection hg' with hg'
   injection hg' with _ hg' _
   exact h2 hg')]
 exact h4
theorem copyCheck_any (B b : Nat) (bs : List Value) (w : World) (h : Lib.IsBuilder 128 5 B b bs w) :
  Calls Tryz.prog 98 #[.pointer (some ⟨b, 0, Option.none⟩)] w fun e w' => e = .returned (.tuple #[]) ∧ (Lib.BuilderAt 128 5 B b (.pointer (some ⟨b, 0, Option.none⟩)) bs w' ∧ Below B w w' ∧ KeepB w w') := by
 rcases h with h | h
 ·refine (copyCheck_fresh b w h.cell0 h.shape h.frozen0).mono ?_
  rintro e w' ⟨rfl, rfl⟩
  have hbk := h
  obtain ⟨_, v, hbk, _⟩ := hbk
  exact ⟨rfl, h.used _, (Below.refl B w).setCell (p := ⟨b, 0, Option.none⟩) h.1 _, (KeepB.refl w).set hbk _⟩
 ·refine (copyCheck_used b w h.cell0).mono ?_
  rintro e w' ⟨rfl, rfl⟩
  exact ⟨rfl, h, Below.refl B _, KeepB.refl _⟩
set_option maxHeartbeats 2000000 in
set_option maxRecDepth 100000 in
theorem writeString_any (B b : Nat) (bs : List Value) (s : ByteArray) (w : World) (h : Lib.IsBuilder 128 5 B b bs w) (hlen : bs.length + s.size ≤ 140737488355328) (hBw : B ≤ w.heap.size) :
  Calls Tryz.prog 57 #[.pointer (some ⟨b, 0, Option.none⟩), .string s] w fun e w' => e = .returned (.tuple #[.int .i64 s.size, .nilIface]) ∧ (Lib.BuilderAt 128 5 B b (.pointer (some ⟨b, 0, Option.none⟩)) (bs ++ Lib.strCells s) w' ∧ Below B w w' ∧ KeepB w w') := by
 obtain ⟨i0, hi, hz0, hz1, hz2⟩ := info_parts Tryz.info_byte
 have HC := Lib.hid (copyCheck_any B b bs w h)
 clear h
 go_enter Tryz.func57, Tryz.ntmps57
 go_wp2_with fail
 refine HC.out.mono ?_
 rintro e w1 ⟨rfl, h1, hb1, hkp⟩
 have HKP := Lib.hid hkp
 clear hkp
 obtain ⟨hB, v, hbk, hown, hne⟩ := h1
 have c0 : w1.cell? ⟨b, 0, Option.none⟩ = some (.pointer (some ⟨b, 0, Option.none⟩)) := by rw [Lib.cell_of_heap hbk]; rfl
 have c1 : w1.cell? ⟨b, 1, Option.none⟩ = some v := by rw [Lib.cell_of_heap hbk]; rfl
 go_wp2_with (at_builtin; refine Lib.wpList_append_own_string _ rfl _ _ 22 9 rfl B 5 i0 Tryz.underlying22 Tryz.underlying9 hi hz0 hz1 hz2 _ _ _ rfl hown s rfl (by unfold maxLen; omega) (by omega) (by have := hb1.size; omega) ?_)
 intro v' w2 hown' hgrow _
 have hlt : b < w1.heap.size := by
  rcases Nat.lt_or_ge b w1.heap.size with h' | h'
  ·exact h'
  ·simp [Array.getElem?_eq_none h'] at hbk
 have hb2 : w2.heap[b]? = some (.cells #[.pointer (some ⟨b, 0, Option.none⟩), v] 128 (0, 0)) := by
  rw [hgrow.block b hlt (fun e => hne e.symm)]
  exact hbk
 have d0 : w2.cell? ⟨b, 0, Option.none⟩ = some (.pointer (some ⟨b, 0, Option.none⟩)) := by rw [Lib.cell_of_heap hb2]; rfl
 have d1 : w2.cell? ⟨b, 1, Option.none⟩ = some v := by rw [Lib.cell_of_heap hb2]; rfl
 have f1 : w2.frozen? ⟨b, 1, Option.none⟩ = false := Lib.frozen_of_heap hb2 1
 obtain ⟨ao, n', cap, rfl⟩ : ∃ ao n' cap, v' = .slice ao n' cap := by
  rcases hown'.2 with ⟨hv, _⟩ | ⟨g, cap, cur, hv, _⟩
  ·exact ⟨_, _, _, hv⟩
  ·exact ⟨_, _, _, hv⟩
 go_wp2
 go_ret2
 refine ⟨rfl, ?_, ?_, ?_⟩
 ·exact Lib.BuilderAt.put (T := 128) (e := 5) hB hb2 (bs' := bs ++ Lib.strCells s) (by simpa [Lib.strCells_length] using hown') (by decide)
 ·exact (hb1.grown hgrow (by have := hb1.size; omega) (fun k hk => (hown.lt k hk).1)).setCell (p := ⟨b, 1, Option.none⟩) hB _
 ·exact (HKP.out.grown hown hgrow).set hb2 _
theorem builderString_any (B b : Nat) (l : List UInt8) (w : World) (h : Lib.IsBuilderF 128 5 B b (Lib.byteCells l) w) (hBw : B ≤ w.heap.size) :
  Calls Tryz.prog 62 #[.pointer (some ⟨b, 0, Option.none⟩)] w fun e w' => e = .returned (.string ⟨l.toArray⟩) ∧ (Lib.IsBuilderF 128 5 B b (Lib.byteCells l) w' ∧ Below B w w') := Tryz.Builder_String_any_f B b l w h hBw
theorem byteCells_len (l : List UInt8) : (Lib.byteCells l).length = l.length := by simp [Lib.byteCells]
theorem builder_below {T e : TypeId} {B b : Nat} {bs : List Value} {w w' : World} (h : Lib.IsBuilder T e B b bs w) (hb : Below w.heap.size w w') : Lib.IsBuilder T e B b bs w' := by
 have key : ∀ p, Lib.BuilderAt T e B b p bs w → Lib.BuilderAt T e B b p bs w' := fun p ⟨hB, v, hbk, hown, hne⟩ =>
  ⟨hB, v, (hb.block b (Array.getElem?_eq_some_iff.1 hbk).1).trans hbk, own_below hown hb, hne⟩
 exact h.elim (fun x => .inl (key _ x)) (fun x => .inr (key _ x))
theorem lineRead_err {i : Nat} {ln : List UInt8} : ∀ (g k : Nat) (acc : List Tok) (c e : Int), lineRead i ln g k acc = .bad c e → e ≠ 0
 | 0, _, _, _, _, h => by cases h
 | g + 1, k, acc, c, e, h => by
   rw [lineRead] at h
   split at h
   ·split at h
    ·exact lineRead_err g _ _ _ _ h
    ·cases hn : nextRead (ln.drop k) with
     | bad er =>
       rw [hn] at h
       injection h with _ h
       subst h
       exact nextRead_bad hn
     | good kd t n d x m =>
       rw [hn] at h
       change (if acc.length = 4000 then Lrd.bad (k + 1) 4 else _) = _ at h
       split at h
       ·injection h with _ h; omega
       ·exact lineRead_err g _ _ _ _ h
   ·cases h
theorem linesRead_err : ∀ (ws : List (List UInt8)) (i : Nat) (acc : List Tok) (a b e : Int), linesRead i ws acc = .bad a b e → e ≠ 0
 | [], _, _, _, _, _, h => by cases h
 | full :: rest, i, acc, a, b, e, h => by
   rw [linesRead] at h
   split at h
   ·rename_i hl
    injection h with _ _ h
    subst h
    exact lineRead_err _ _ _ _ _ hl
   ·split at h
    ·exact linesRead_err rest _ _ _ _ _ h
    ·split at h
     ·injection h with _ _ h; omega
     ·exact linesRead_err rest _ _ _ _ _ h
theorem scanRead_bad {s : List UInt8} {a b e : Int} (h : scanRead s = .bad a b e) : e ≠ 0 := by
 unfold scanRead at h
 split at h
 ·injection h with _ _ h; omega
 ·exact linesRead_err _ _ _ _ _ _ h
end Go.Proofs.YtaaeekahhhookaaGreatDoor
