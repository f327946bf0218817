import Derived.Test.YtaaeekahhhookaaGreatDoorGGMCk
import Derived.Test.YtaaeekahhhookaaGreatDoorGXCCk
import Derived.Test.YtaaeekahhhookaaGreatDoorGXAMCk
import Derived.Deep.RegionHeld3
import Derived.Deep.AppendLies
import Derived.Deep.RegionLaw
namespace Go.Proofs.YtaaeekahhhookaaGreatDoor
open Go.RowKit Go.Lib
structure Bt where
 len : Nat
 notes : List (List Int)
structure LA {α : Type} (s : Nat) (Q : α → List Value → Prop) (w : World) (A : Option Addr) (l : List α) : Prop where
 get : ∀ k x, l[k]? = some x → ∃ b o cs, A = some ⟨b, o, Option.none⟩ ∧ b < w.heap.size ∧ cs.length = s ∧ Q x cs ∧ ∀ j, j < s → w.cell? ⟨b, o + (k * s + j), Option.none⟩ = cs[j]?
section
variable {α : Type} {s : Nat} {Q Q' : α → List Value → Prop} {w w' : World} {A : Option Addr} {l : List α}
theorem LA.lift (h : LA s Q w A l) (hb : Below w.heap.size w w') (hQ : ∀ x cs, x ∈ l → Q x cs → Q' x cs) : LA s Q' w' A l := ⟨fun k x hx => by
 obtain ⟨b, o, cs, e, hl, hs, hq, hc⟩ := h.get k x hx
 exact ⟨b, o, cs, e, Nat.lt_of_lt_of_le hl hb.size, hs, hQ x cs (List.mem_of_getElem? hx) hq, fun j hj => (hb.cell (p := ⟨b, o + (k * s + j), Option.none⟩) hl).trans (hc j hj)⟩⟩
theorem LA.nil (s : Nat) (Q : α → List Value → Prop) (w : World) (A : Option Addr) : LA s Q w A [] := ⟨fun k x h => by simp at h⟩
end
def FourQ (x : List Int) (cs : List Value) : Prop := Four x ∧ cs = [.int .i8 (x[0]?.getD 0), .int .i8 (x[1]?.getD 0), .int .i8 (x[2]?.getD 0), .int .i8 (x[3]?.getD 0)]
def BtQ (w : World) (x : Bt) (cs : List Value) : Prop := x.len ≤ 255 ∧ ∃ A c, cs = [.int .u8 (x.len : Nat), .slice A x.notes.length c] ∧ x.notes.length ≤ c ∧ c ≤ maxLen ∧ LA 4 FourQ w A x.notes
def VpQ (w : World) (x : List Bt) (cs : List Value) : Prop := ∃ A c, cs = [.slice A x.length c] ∧ x.length ≤ c ∧ c ≤ maxLen ∧ LA 2 (BtQ w) w A x
def PlA (w : World) (v : Value) (x : List (List Bt)) : Prop := ∃ A c, v = .slice A x.length c ∧ x.length ≤ c ∧ c ≤ maxLen ∧ LA 1 (VpQ w) w A x
section
variable {w w' : World}
theorem BtQ.lift {x : Bt} {cs : List Value} (h : BtQ w x cs) (hb : Below w.heap.size w w') : BtQ w' x cs := by
 obtain ⟨h0, A, c, e, h1, h2, h3⟩ := h
 exact ⟨h0, A, c, e, h1, h2, h3.lift hb fun _ _ _ h => h⟩
theorem VpQ.lift {x : List Bt} {cs : List Value} (h : VpQ w x cs) (hb : Below w.heap.size w w') : VpQ w' x cs := by
 obtain ⟨A, c, e, h1, h2, h3⟩ := h
 exact ⟨A, c, e, h1, h2, h3.lift hb fun _ _ _ h => h.lift hb⟩
theorem PlA.lift {v : Value} {x : List (List Bt)} (h : PlA w v x) (hb : Below w.heap.size w w') : PlA w' v x := by
 obtain ⟨A, c, e, h1, h2, h3⟩ := h
 exact ⟨A, c, e, h1, h2, h3.lift hb fun _ _ _ h => h.lift hb⟩
theorem LA.voice {A : Option Addr} {l : List (List Bt)} (h : LA 1 (VpQ w) w A l) {k : Nat} (hk : k < l.length) : ∃ b o A' c', A = some ⟨b, o, Option.none⟩ ∧ b < w.heap.size ∧ w.cell? ⟨b, o + k, Option.none⟩ = some (.slice A' (l[k]'hk).length c') ∧ (l[k]'hk).length ≤ c' ∧ c' ≤ maxLen ∧ LA 2 (BtQ w) w A' (l[k]'hk) := by
 obtain ⟨b, o, cs, e, hl, hs, ⟨A', c', rfl, h1, h2, h3⟩, hc⟩ := h.get k _ (List.getElem?_eq_getElem hk)
 have h4 := hc 0 (by omega)
 rw [Nat.mul_one, Nat.add_zero] at h4
 exact ⟨b, o, A', c', e, hl, h4, h1, h2, h3⟩
theorem LA.beat {A : Option Addr} {l : List Bt} (h : LA 2 (BtQ w) w A l) {k : Nat} (hk : k < l.length) : ∃ b o A' c', A = some ⟨b, o, Option.none⟩ ∧ b < w.heap.size ∧ w.cell? ⟨b, o + k * 2, Option.none⟩ = some (.int .u8 ((l[k]'hk).len : Nat)) ∧ w.cell? ⟨b, o + k * 2 + 1, Option.none⟩ = some (.slice A' (l[k]'hk).notes.length c') ∧ (l[k]'hk).len ≤ 255 ∧ (l[k]'hk).notes.length ≤ c' ∧ c' ≤ maxLen ∧ LA 4 FourQ w A' (l[k]'hk).notes := by
 obtain ⟨b, o, cs, e, hl, hs, ⟨h0, A', c', rfl, h1, h2, h3⟩, hc⟩ := h.get k _ (List.getElem?_eq_getElem hk)
 have h4 := hc 0 (by omega)
 have h5 := hc 1 (by omega)
 rw [Nat.add_zero] at h4
 rw [← Nat.add_assoc] at h5
 exact ⟨b, o, A', c', e, hl, h4, h5, h0, h1, h2, h3⟩
theorem LA.note {A : Option Addr} {l : List (List Int)} (h : LA 4 FourQ w A l) {k : Nat} (hk : k < l.length) : ∃ b o a0 a1 a2 a3, A = some ⟨b, o, Option.none⟩ ∧ b < w.heap.size ∧ l[k]'hk = [a0, a1, a2, a3] ∧ Four [a0, a1, a2, a3] ∧ w.cell? ⟨b, o + k * 4, Option.none⟩ = some (.int .i8 a0) ∧ w.cell? ⟨b, o + k * 4 + 1, Option.none⟩ = some (.int .i8 a1) ∧ w.cell? ⟨b, o + k * 4 + 2, Option.none⟩ = some (.int .i8 a2) ∧ w.cell? ⟨b, o + k * 4 + 3, Option.none⟩ = some (.int .i8 a3) := by
 obtain ⟨b, o, cs, e, hl, hs, ⟨h0, rfl⟩, hc⟩ := h.get k _ (List.getElem?_eq_getElem hk)
 have h4 := hc 0 (by omega)
 have h5 := hc 1 (by omega)
 have h6 := hc 2 (by omega)
 have h7 := hc 3 (by omega)
 rw [Nat.add_zero] at h4
 rw [← Nat.add_assoc] at h5 h6 h7
 generalize l[k]'hk = x at *
 have hx := h0.1
 match x, hx with
 | [a0, a1, a2, a3], _ => exact ⟨b, o, a0, a1, a2, a3, e, hl, rfl, h0, h4, h5, h6, h7⟩
end
def fitsPl (l : List (List Bt)) : Bool := l.all (fun v => decide (v.length ≤ 6) && v.all fun b => decide (b.notes.length ≤ 4)) && decide (l.length ≤ 3)
def beatE (m : Nat) (b : Bt) : Ev := ⟨t12n (1 + b.len % 24), t12d (1 + b.len % 24), b.notes.map fun x => ivlTo x m⟩
def nameOf (i : Nat) : List UInt8 := [[97], [66, 97, 115, 115, 95, 50], [99, 35, 39]].getD i []
def voiceE (m i : Nat) (v : List Bt) : Vc := ⟨nameOf i, v.map (beatE m)⟩
def makeTo (p : List Int) (l : List (List Bt)) : Nat → List Vc
 | 0 => []
 | k + 1 => makeTo p l k ++ [voiceE p.length k (l[k]?.getD [])]
theorem makeTo_len (p : List Int) (l : List (List Bt)) : ∀ k, (makeTo p l k).length = k
 | 0 => rfl
 | k + 1 => by rw [makeTo, List.length_append, makeTo_len p l k]; rfl
def makeSc (n : Nat) (l : List (List Bt)) : Sc := ⟨primesOf n, makeTo (primesOf n) l (min l.length 3)⟩
end Go.Proofs.YtaaeekahhhookaaGreatDoor
namespace Go.Proofs.YtaaeekahhhookaaGreatDoor
open Go.RowKit Go.Lib
theorem Tryz.info_rat48 : (Tryz.prog.info? 51).map (fun i => (i.zero, i.size, i.bytes)) = some (some (.agg #[.string ⟨#[]⟩, .string ⟨#[]⟩]), 2, 32) := by kernel_rfl
set_option maxHeartbeats 400000 in
theorem zero_any (w : World) :
  Calls Tryz.prog 64 #[] w fun e w' => e = .returned (.agg #[.string ⟨#[48]⟩, .string ⟨#[49]⟩]) ∧ Below w.heap.size w w' := by
 go_enter Tryz.func64, Tryz.ntmps64
 go_wp2
 refine bodyPost_ret (v := .agg #[.string ⟨#[48]⟩, .string ⟨#[49]⟩]) (by simp (maxDischargeDepth := 10) [results, Tryz.results64, go_sem]) rfl ⟨rfl, ?_⟩
 exact (Below.refl _ _).alloc (Nat.le_refl _) _
def TimesOf (es : List Ev) (ds : List Nat) : Prop := es.map (fun x => (x.num, x.den)) = ds.map t12
theorem TimesOf.len {es : List Ev} {ds : List Nat} (h : TimesOf es ds) : es.length = ds.length := by simpa using congrArg List.length h
theorem TimesOf.at_ {es : List Ev} {ds : List Nat} (h : TimesOf es ds) {k : Nat} (hk : k < es.length) : ∃ d, ds[k]? = some d ∧ (es[k]'hk).num = t12n d ∧ (es[k]'hk).den = t12d d := by
 have hd : k < ds.length := by rw [← h.len]; exact hk
 have h2 := congrArg (·[k]?) h
 simp only [List.getElem?_map, List.getElem?_eq_getElem hk, List.getElem?_eq_getElem hd, Option.map_some] at h2
 injection h2 with h2
 unfold t12 at h2
 injection h2 with h3 h4
 exact ⟨ds[k], List.getElem?_eq_getElem hd, h3, h4⟩
theorem sum_take_le : ∀ (ds : List Nat) (k : Nat), (ds.take k).sum ≤ ds.sum
 | [], k => by simp
 | d :: r, 0 => by simp
 | d :: r, k + 1 => by
   have := sum_take_le r k
   rw [List.take_succ_cons, List.sum_cons, List.sum_cons]
   omega
theorem sum_take_succ {ds : List Nat} {k d : Nat} (h : ds[k]? = some d) : (ds.take (k + 1)).sum = (ds.take k).sum + d := by
 obtain ⟨hk, rfl⟩ := List.getElem?_eq_some_iff.1 h
 rw [List.take_succ_eq_append_getElem hk, List.sum_append]
 simp
theorem strt_next {ds : List Nat} {k d : Nat} (h : ds[k]? = some d) : strt (ds.take (k + 1)) = strt (ds.take k) ++ [(ds.take k).sum + d] := by
 obtain ⟨hk, rfl⟩ := List.getElem?_eq_some_iff.1 h
 unfold strt
 rw [List.take_succ_eq_append_getElem hk, runs_snoc, Nat.zero_add]
theorem strt_last {ds : List Nat} {k : Nat} (hk : k ≤ ds.length) : (strt (ds.take k))[k]? = some (ds.take k).sum := by
 unfold strt
 rw [runs_get 0 _ k (by rw [List.length_take]; omega), Nat.zero_add, List.take_take, Nat.min_self]
theorem strt_len (ds : List Nat) : (strt ds).length = ds.length + 1 := runs_len 0 ds
theorem TmO.below {w w' : World} {base : Nat} {v : Value} {l : List Nat} (h : TmO w base v l) (hb : Below w.heap.size w w') : TmO w' base v l := by
 obtain ⟨css, h⟩ := h
 exact ⟨css, h.below hb fun _ _ _ h => h⟩
theorem TmO.shape {w : World} {base : Nat} {v : Value} {l : List Nat} (h : TmO w base v l) : ∃ A c, v = .slice A l.length c ∧ l.length ≤ c ∧ c ≤ maxLen ∧ TmT w w.heap.size A l := by
 obtain ⟨css, h⟩ := h
 exact h.shape
theorem TmT.at_ {w : World} {B : Nat} {A : Option Addr} {l : List Nat} (h : TmT w B A l) {k a : Nat} (hk : l[k]? = some a) : ∃ b o, A = some ⟨b, o, Option.none⟩ ∧ b < B ∧ w.cell? ⟨b, o + k * 2, Option.none⟩ = some (.string ⟨(t12n a).toArray⟩) ∧ w.cell? ⟨b, o + k * 2 + 1, Option.none⟩ = some (.string ⟨(t12d a).toArray⟩) := by
 obtain ⟨b, o, cs, e, h1, h2, h3, h4, rfl⟩ := h.get k a hk
 exact ⟨b, o, e, h1, h4 0 (by decide), h4 1 (by decide)⟩
theorem TmT.lift {w w' : World} {A : Option Addr} {l : List Nat} (h : TmT w w.heap.size A l) (hb : Below w.heap.size w w') : TmT w' w'.heap.size A l := LT.keep h (E := []) (KpT.of_below hb) (by simp) hb.size fun _ _ _ h => h
set_option maxRecDepth 100000 in
set_option maxHeartbeats 8000000 in
theorem starts_any (nm : List UInt8) (A : Option Addr) (c : Nat) (es : List Ev) (ds : List Nat) (w : World) (hS : Std w) (hv : EvsT w w.heap.size A es) (hd : TimesOf es ds) (hsum : ds.sum ≤ 1000000) (hn : es.length ≤ 1000000) :
  Calls Tryz.prog 63 #[.agg #[.string ⟨nm.toArray⟩, .slice A es.length c]] w fun e w' => (∃ v, e = .returned v ∧ TmO w' w.heap.size v (strt ds)) ∧ Below w.heap.size w w' := by
 obtain ⟨i0, hi0, hz0, hz1, hz2⟩ := info_parts Tryz.info_rat48
 have HS := Lib.hid hS
 have HV := Lib.hid hv
 have HD : Box (TimesOf es ds) := ⟨hd⟩
 have HSUM : Box (ds.sum ≤ 1000000) := ⟨hsum⟩
 have HLN : Box (es.length = ds.length) := ⟨hd.len⟩
 have HZ := Lib.hid (fun W => zero_any W)
 have hba : Below w.heap.size w (w.alloc (.cells #[.string ⟨nm.toArray⟩, .slice A es.length c] 48)) := (Below.refl _ _).alloc (Nat.le_refl _) _
 have HBA := Lib.hid hba
 have HN := Lib.hid (Cells.new w 48 #[.string ⟨nm.toArray⟩, .slice A es.length c])
 clear hS hv hd hsum hba
 go_enter Tryz.func63, Tryz.ntmps63
 go_wp2_with fail
 refine (HZ.out _).mono ?_
 rintro e w1 ⟨rfl, hb1⟩
 have hc1 := HN.out.below hb1 HN.out.lt
 obtain ⟨z0, z1⟩ := cel2 hc1
 have HB1 := Lib.hid (HBA.out.trans (hb1.mono HBA.out.size))
 have hs1 := HB1.out.size
 have HL0 : Hid (TmO (w1.alloc (.cells #[.string ⟨#[48]⟩, .string ⟨#[49]⟩] 51)) w.heap.size (.slice (some ⟨w1.heap.size, 0, Option.none⟩) 1 1) (strt (ds.take 0))) := Lib.hid ⟨[[.string ⟨#[48]⟩, .string ⟨#[49]⟩]], ⟨World.ownsRow_lit w1 #[.string ⟨#[48]⟩, .string ⟨#[49]⟩] 1 hs1 (by decide) rfl, rfl, fun cs h => by simp at h; rw [h]; rfl, fun k x cs h1 h2 => by
  have hk : k = 0 := by have := (List.getElem?_eq_some_iff.1 h2).1; simpa using this
  subst hk
  simp [strt, runs] at h1 h2
  subst h1 h2
  have e0 : t12n 0 = [48] := congrArg Prod.fst t12_zero
  have e1 : t12d 0 = [49] := congrArg Prod.snd t12_zero
  unfold TmQ
  rw [e0, e1]⟩⟩
 have HB2 := Lib.hid (HB1.out.alloc hs1 (.cells #[.string ⟨#[48]⟩, .string ⟨#[49]⟩] 51))
 have hz0' := keep_cell z0 ((Below.refl w1.heap.size w1).alloc (Nat.le_refl _) (.cells #[.string ⟨#[48]⟩, .string ⟨#[49]⟩] 51))
 have hz1' := keep_cell z1 ((Below.refl w1.heap.size w1).alloc (Nat.le_refl _) (.cells #[.string ⟨#[48]⟩, .string ⟨#[49]⟩] 51))
 clear hb1 hc1 HN HBA z0 z1
 go_wp2_with fail
 go_loopw [3, 11] (fun o i wr => ∃ k : Nat, k ≤ es.length ∧ i = .int .i64 k ∧ TmO wr w.heap.size o (strt (ds.take k)) ∧ Below w.heap.size w wr) (fun _ i _ => es.length - (intOf i).toNat)
 case atStart => exact ⟨0, Nat.zero_le _, rfl, HL0.out, HB2.out⟩
 case round =>
  clear HL0 HB2 HB1 HZ hz0' hz1'
  obtain ⟨k, hk, rfl, ht, hbw⟩ := hrel
  by_cases hlt : k < es.length
  ·obtain ⟨b1, o1, A1, C1, rfl, hb1, _, p0, p1, p2, _, _, _⟩ := (HV.out.lift hbw).at_ hlt
   obtain ⟨d, hdk, en, ed⟩ := HD.out.at_ hlt
   have HNX : Box (strt (ds.take (k + 1)) = strt (ds.take k) ++ [(ds.take k).sum + d]) := ⟨strt_next hdk⟩
   have hle : (ds.take k).sum + d ≤ 1000000 := by
    rw [← sum_take_succ hdk]
    have := sum_take_le ds (k + 1)
    have := HSUM.out
    omega
   have HLS : Box ((strt (ds.take k))[k]? = some (ds.take k).sum) := ⟨strt_last (by have := HLN.out; omega)⟩
   have HLL : Box ((strt (ds.take k)).length = k + 1) := ⟨by rw [strt_len, List.length_take]; have := HLN.out; omega⟩
   generalize (es[k]'hlt).notes.length = nn at *
   rw [en] at p0
   rw [ed] at p1
   clear en ed hdk
   generalize (ds.take k).sum = a at *
   generalize strt (ds.take k) = st at *
   obtain ⟨W, hW⟩ : ∃ W, W = wr.alloc (.cells #[.string ⟨(t12n d).toArray⟩, .string ⟨(t12d d).toArray⟩, .slice A1 nn C1] 54) := ⟨_, rfl⟩
   obtain ⟨X, hX⟩ : ∃ X, X = wr.heap.size := ⟨_, rfl⟩
   have hba : Below wr.heap.size wr W := by rw [hW]; exact (Below.refl _ _).alloc (Nat.le_refl _) _
   have HX : Hid (Cells W X 54 [.string ⟨(t12n d).toArray⟩, .string ⟨(t12d d).toArray⟩, .slice A1 nn C1]) := Lib.hid (by rw [hW, hX]; exact Cells.new wr 54 _)
   obtain ⟨css, hlo⟩ := ht.below hba
   have hown := hlo.own
   rw [HLL.out] at hown
   obtain ⟨g, cap, rfl, hgw, hgl⟩ := hown.form (by omega)
   have HTM := hlo.shape
   obtain ⟨A9, c9, e9, _, _, htm⟩ := HTM
   have hA9 : A9 = some ⟨g, 0, Option.none⟩ := by injection e9 with e _ _; exact e.symm
   clear e9
   subst hA9
   obtain ⟨b9, o9, e9, _, g0, g1⟩ := TmT.at_ htm HLS.out
   injection e9 with e9
   injection e9 with e9 e8 _
   subst e9 e8
   have hi1 : (0 : Int) ≤ (k : Int) := by omega
   have hi2 : (k : Int) < (k : Int) + 1 := by omega
   have hi3 : (k : Int) < ((k + 1 : Nat) : Int) := by omega
   rw [Nat.zero_add] at g0 g1
   obtain ⟨x0, x1, _⟩ := cel3 HX.out
   have HLO := Lib.hid hlo
   have HO := Lib.hid hown
   have HBW := Lib.hid (hbw.trans (hba.mono hbw.size))
   have HSW := Lib.hid (HS.out.below HBW.out (Nat.le_refl _))
   have HAD := Lib.hid (fun W' h => tAdd_any a d W' h (by omega) (by omega))
   have hws := HBW.out.size
   clear ht hown hlo htm hbw hb1 HLS
   go_wp2_with fail
   rw [← hW, ← hX]
   clear hW hX hba p0 p1 p2
   have HTQ : Box (TmQ (a + d) [.string ⟨(t12n (a + d)).toArray⟩, .string ⟨(t12d (a + d)).toArray⟩]) := ⟨rfl⟩
   generalize t12n (a + d) = rn at *
   generalize t12d (a + d) = rd at *
   have hB : Below W.heap.size W W.drew := below_to_drew (Below.refl _ _)
   go_region_law (first
     | (refine step_append_lies _ (by rfl) _ _ _ (by rfl) w.heap.size 51 i0 _ 2 32 Tryz.underlying65 hi0 hz0 hz1 hz2 rfl (by omega) (.slice (some ⟨g, 0, Option.none⟩) (k + 1) cap) (k + 1) css.flatten (by rfl) (HOA.alloc _) ⟨wA.heap.size, 0, Option.none⟩ 1 1 [.string ⟨rn.toArray⟩, .string ⟨rd.toArray⟩] (by rfl) (by rfl) (World.news_of_block (cs := #[.string ⟨rn.toArray⟩, .string ⟨rd.toArray⟩]) (t := 51) (fr := (0, 0)) (heap_alloc_new wA _)) (by simp [Value.oneCell']) (by omega) (by unfold maxLen; omega) (by omega) (by simp; omega) (wA.heap.size + 1) (by simp) ?_; intro gB cB wB hownB hgB hatB hltB)
     | (go_simp; go_at_call 102; (with_reducible refine (HAD.out _ (HSW.out.below hB (Nat.le_refl _))).mono ?_); rintro e wA ⟨rfl, hbk⟩; replace hB := hB.trans (hbk.mono hB.size); clear hbk; have HOA := own_below HO.out hB; have hwA := hB.size))
   all_goals
    have HTN : Hid (TmO wB w.heap.size (.slice (some ⟨gB, 0, Option.none⟩) (k + 1 + 1) cB) (st ++ [a + d])) := Lib.hid ⟨css ++ [[.string ⟨rn.toArray⟩, .string ⟨rd.toArray⟩]], HLO.out.push (fun _ _ _ h => h) HTQ.out rfl (by rw [HLL.out]; exact hownB)⟩
    have HBZ := Lib.hid (((HBW.out.trans (hB.mono hws)).alloc (by omega) (.cells #[.string ⟨rn.toArray⟩, .string ⟨rd.toArray⟩] 51)).grown hgB (by simp; omega) (fun j hj => (HOA.lt j hj).1))
    clear hownB hgB hatB hltB HOA hB hwA
    go_wp2_with fail
    go_roundw
    case rel => exact ⟨k + 1, by omega, by go_num, by rw [HNX.out]; exact HTN.out, HBZ.out⟩
    case measure => simp [intOf]; omega
  ·obtain rfl : k = es.length := by omega
   rw [List.take_of_length_le (by rw [HLN.out]; exact Nat.le_refl _)] at ht
   obtain ⟨A9, c9, rfl, _⟩ := ht.shape
   go_wp2_with fail
   go_ret
   exact ⟨⟨_, rfl, ht⟩, hbw⟩
theorem TsQ.keep {E : List TypeId} {B B' : Nat} {w w' : World} (hk : KpT E B w w') (h1 : 51 ∉ E) (hB : B ≤ B') {l : List Nat} {cs : List Value} (h : TsQ w B l cs) : TsQ w' B' l cs := by
 obtain ⟨A, c, e, h2, h3, h4⟩ := h
 exact ⟨A, c, e, h2, h3, LT.keep h4 hk h1 hB fun _ _ _ h => h⟩
theorem TsT.lift {w w' : World} {A : Option Addr} {ll : List (List Nat)} (h : TsT w w.heap.size A ll) (hb : Below w.heap.size w w') : TsT w' w'.heap.size A ll := LT.keep h (E := []) (KpT.of_below hb) (by simp) hb.size fun _ _ _ h => h.keep (E := []) (KpT.of_below hb) (by simp) hb.size
theorem TsT.at_ {w : World} {B : Nat} {A : Option Addr} {ll : List (List Nat)} (h : TsT w B A ll) {k : Nat} (hk : k < ll.length) : ∃ b o A' c', A = some ⟨b, o, Option.none⟩ ∧ b < B ∧ w.cell? ⟨b, o + k, Option.none⟩ = some (.slice A' (ll[k]'hk).length c') ∧ (ll[k]'hk).length ≤ c' ∧ c' ≤ maxLen ∧ TmT w B A' (ll[k]'hk) := by
 obtain ⟨b, o, cs, e, h1, h2, h3, h4, A', c', rfl, h5, h6, h7⟩ := h.get k _ (List.getElem?_eq_getElem hk)
 have := h4 0 (by decide)
 exact ⟨b, o, A', c', e, h1, by simpa using this, h5, h6, h7⟩
def TsO (w : World) (base : Nat) (v : Value) (ll : List (List Nat)) : Prop := ∃ css, LO 65 1 (TsQ w w.heap.size) w base v ll css
theorem TsO.below {w w' : World} {base : Nat} {v : Value} {l : List (List Nat)} (h : TsO w base v l) (hb : Below w.heap.size w w') : TsO w' base v l := by
 obtain ⟨css, h⟩ := h
 exact ⟨css, h.below hb fun _ _ _ h => h.keep (E := []) (KpT.of_below hb) (by simp) hb.size⟩
theorem TsO.shape {w : World} {base : Nat} {v : Value} {l : List (List Nat)} (h : TsO w base v l) : ∃ A c, v = .slice A l.length c ∧ l.length ≤ c ∧ c ≤ maxLen ∧ TsT w w.heap.size A l := by
 obtain ⟨css, h⟩ := h
 exact h.shape
theorem Tryz.info_rats : (Tryz.prog.info? 65).map (fun i => (i.zero, i.size, i.bytes)) = some (some (.slice Option.none 0 0), 1, 24) := by kernel_rfl
def TimesV (vs : List Vc) (dss : List (List Nat)) : Prop := vs.map (fun v => v.evs.map fun x => (x.num, x.den)) = dss.map (·.map t12)
theorem TimesV.len {vs : List Vc} {dss : List (List Nat)} (h : TimesV vs dss) : vs.length = dss.length := by simpa using congrArg List.length h
theorem TimesV.at_ {vs : List Vc} {dss : List (List Nat)} (h : TimesV vs dss) {k : Nat} (hk : k < vs.length) : ∃ ds, dss[k]? = some ds ∧ TimesOf (vs[k]'hk).evs ds := by
 have hd : k < dss.length := by rw [← h.len]; exact hk
 have h2 := congrArg (·[k]?) h
 simp only [List.getElem?_map, List.getElem?_eq_getElem hk, List.getElem?_eq_getElem hd, Option.map_some] at h2
 injection h2 with h2
 exact ⟨dss[k], List.getElem?_eq_getElem hd, h2⟩
structure ShortV (vs : List Vc) (dss : List (List Nat)) : Prop where
 tv : TimesV vs dss
 vcs : vs.length ≤ 1000
 evs : ∀ v ∈ vs, v.evs.length ≤ 1000
 sum : ∀ ds ∈ dss, ds.sum ≤ 1000000
set_option maxRecDepth 100000 in
set_option maxHeartbeats 8000000 in
theorem scTimes_any (pv vv : Value) (s : Sc) (dss : List (List Nat)) (w : World) (hS : Std w) (h : ScV w w.heap.size pv vv s) (hd : ShortV s.voices dss) :
  Calls Tryz.prog 67 #[.agg #[pv, vv]] w fun e w' => (∃ v, e = .returned v ∧ TsO w' w.heap.size v (dss.map strt)) ∧ Below w.heap.size w w' := by
 obtain ⟨i0, hi0, hz0, hz1, hz2⟩ := info_parts Tryz.info_rats
 obtain ⟨hp, A, c, rfl, hcl, hcm, hv⟩ := h
 obtain ⟨AP, cp, rfl, _⟩ := hp.shape
 have HS := Lib.hid hS
 have HV := Lib.hid hv
 have HD : Box (ShortV s.voices dss) := ⟨hd⟩
 have HLN : Box (s.voices.length = dss.length) := ⟨hd.tv.len⟩
 have hn := hd.vcs
 obtain ⟨p, vs⟩ := s
 dsimp only at *
 have HBA := Lib.hid ((Below.refl w.heap.size w).alloc (Nat.le_refl _) (.cells #[.slice AP p.length cp, .slice A vs.length c] 29))
 unfold maxLen at hcm
 clear hS hp hv hd
 go_enter Tryz.func67, Tryz.ntmps67
 go_wp2_with fail
 go_loopw [3, 9] (fun o i wr => ∃ k : Nat, k ≤ vs.length ∧ i = .int .i64 k ∧ TsO wr w.heap.size o ((dss.take k).map strt) ∧ Below w.heap.size w wr) (fun _ i _ => vs.length - (intOf i).toNat)
 case atStart => exact ⟨0, Nat.zero_le _, rfl, ⟨[], LO.nil _ _⟩, HBA.out⟩
 case round =>
  clear HBA
  obtain ⟨k, hk, rfl, ht, hbw⟩ := hrel
  by_cases hlt : k < vs.length
  ·obtain ⟨b1, o1, A1, C1, rfl, hb1, _, q0, q1, _, _, hev⟩ := (HV.out.lift hbw).at_ hlt
   obtain ⟨ds, hdk, hto⟩ := HD.out.tv.at_ hlt
   have hel := HD.out.evs _ (List.getElem_mem hlt)
   have hsm := HD.out.sum ds (List.mem_of_getElem? hdk)
   have HNX : Box ((dss.take (k + 1)).map strt = (dss.take k).map strt ++ [strt ds]) := ⟨by
    obtain ⟨hk2, rfl⟩ := List.getElem?_eq_some_iff.1 hdk
    rw [List.take_succ_eq_append_getElem hk2, List.map_append]
    rfl⟩
   have HLL : Box (((dss.take k).map strt).length = k) := ⟨by rw [List.length_map, List.length_take]; have := HLN.out; omega⟩
   generalize vs[k]'hlt = v at *
   obtain ⟨nm, es⟩ := v
   dsimp only at *
   generalize (dss.take k).map strt = st at *
   have hba : Below wr.heap.size wr (wr.alloc (.cells #[.string ⟨nm.toArray⟩, .slice A1 es.length C1] 48)) := (Below.refl _ _).alloc (Nat.le_refl _) _
   have HBW := Lib.hid (hbw.trans (hba.mono hbw.size))
   have HT := Lib.hid (ht.below hba)
   have HST := Lib.hid (starts_any nm A1 C1 es ds _ (HS.out.below HBW.out (Nat.le_refl _)) (hev.lift hba) hto hsm (by omega))
   have hws := HBW.out.size
   clear ht hba hbw hev hto hsm hdk hb1
   generalize strt ds = sd at *
   go_wp2_with fail
   refine HST.out.mono ?_
   rintro e w2 ⟨⟨v2, rfl, ht2⟩, hb2⟩
   obtain ⟨A2, c2, rfl, h2l, h2m, h2t⟩ := ht2.shape
   obtain ⟨css, hlo⟩ := HT.out.below hb2
   have hown := hlo.own
   rw [HLL.out] at hown
   have HLO := Lib.hid hlo
   have HO := Lib.hid hown
   have H2 : Hid (TsQ w2 w2.heap.size sd [.slice A2 sd.length c2]) := Lib.hid ⟨A2, c2, rfl, h2l, h2m, h2t⟩
   have HB2 := Lib.hid (HBW.out.trans (hb2.mono hws))
   have hw2 : w.heap.size ≤ w2.heap.size := HB2.out.size
   clear ht2 h2l h2m h2t hlo hown hb2 HT HST
   go_wp2_with (at_builtin; refine wpList_append_own _ rfl _ _ _ rfl w.heap.size 65 i0 (.slice Option.none 0 0) 1 24 Tryz.underlying143 hi0 hz0 hz1 hz2 rfl (by decide) _ _ _ rfl (HO.out.alloc _) ⟨w2.heap.size, 0, Option.none⟩ 1 1 [_] rfl rfl (cell_one_new _ _ _) (by intro u hu; simp at hu; subst hu; rfl) (by unfold maxLen; omega) (by omega) (by simp; omega) ?_; intro v9 w9 hown9 hg9 _)
   have hal : Below w2.heap.size w2 (w2.alloc (.cells #[.slice A2 sd.length c2] 65)) := (Below.refl _ _).alloc (Nat.le_refl _) _
   have HTN : Hid (TsO w9 w.heap.size v9 (st ++ [sd])) := Lib.hid ⟨css ++ [[.slice A2 sd.length c2]], (HLO.out.mono (Q' := TsQ w9 w9.heap.size) (fun x cs _ h => (h.keep (E := []) (KpT.of_below hal) (by simp) hal.size).keep (E := [65]) ((KpT.refl _ _ _).grown (HO.out.alloc _) (by simp) hg9) (by decide) hg9.size)).push (fun _ _ _ h => h) ((H2.out.keep (E := []) (KpT.of_below hal) (by simp) hal.size).keep (E := [65]) ((KpT.refl _ _ _).grown (HO.out.alloc _) (by simp) hg9) (by decide) hg9.size) rfl (by rw [HLL.out]; exact hown9)⟩
   have HB9 := Lib.hid ((HB2.out.alloc hw2 (.cells #[.slice A2 sd.length c2] 65)).grown hg9 (by simp; omega) (fun j hj => (HO.out.lt j hj).1))
   go_roundw
   case rel => exact ⟨k + 1, by omega, by go_num, by rw [HNX.out]; exact HTN.out, HB9.out⟩
   case measure => simp [intOf]; omega
  ·obtain rfl : k = vs.length := by omega
   rw [List.take_of_length_le (by rw [HLN.out]; exact Nat.le_refl _)] at ht
   obtain ⟨A9, c9, rfl, _⟩ := ht.shape
   go_wp2_with fail
   go_ret
   exact ⟨⟨_, rfl, ht⟩, hbw⟩
theorem makeTo_get {p : List Int} {l : List (List Bt)} : ∀ {k i : Nat}, i < k → (makeTo p l k)[i]? = some (voiceE p.length i (l[i]?.getD []))
 | 0, i, h => by omega
 | k + 1, i, h => by
   rw [makeTo]
   by_cases hi : i < k
   ·rw [List.getElem?_append_left (by rw [makeTo_len]; exact hi)]
    exact makeTo_get hi
   ·obtain rfl : i = k := by omega
    rw [List.getElem?_append_right (by rw [makeTo_len]; exact Nat.le_refl _), makeTo_len, Nat.sub_self]
    rfl
theorem makeTo_mem {p : List Int} {l : List (List Bt)} {k : Nat} {v : Vc} (h : v ∈ makeTo p l k) : ∃ i, i < k ∧ v = voiceE p.length i (l[i]?.getD []) := by
 obtain ⟨i, hi⟩ := List.mem_iff_getElem?.1 h
 have hk : i < k := by have := (List.getElem?_eq_some_iff.1 hi).1; rwa [makeTo_len] at this
 rw [makeTo_get hk] at hi
 injection hi with hi
 exact ⟨i, hk, hi.symm⟩
theorem makeTo_take {p : List Int} {l : List (List Bt)} {k n : Nat} (h : k ≤ n) : (makeTo p l n).take k = makeTo p l k := by
 induction n with
 | zero => obtain rfl : k = 0 := by omega
           rfl
 | succ n ih =>
   by_cases hk : k ≤ n
   ·rw [makeTo, List.take_append_of_le_length (by rw [makeTo_len]; exact hk), ih hk]
   ·obtain rfl : k = n + 1 := by omega
    exact List.take_of_length_le (by rw [makeTo_len]; exact Nat.le_refl _)
theorem rowsErr_all {n : Nat} : ∀ {l : List (List Int)}, (∀ x ∈ l, rowErr n x = 0) → rowsErr n l = 0
 | [], _ => rfl
 | x :: r, h => by
   rw [rowsErr, if_neg (by rw [h x (by simp)]; simp)]
   exact rowsErr_all fun y hy => h y (by simp [hy])
theorem chkAll_all {p : List Int} {l : List (List Int)} (hp : primeErr p = 0) (h : ∀ x ∈ l, chkAll p [x] = 0) : chkAll p l = 0 := by
 unfold chkAll
 rw [if_neg (by rw [hp]; simp)]
 refine rowsErr_all fun x hx => ?_
 have := h x hx
 unfold chkAll at this
 rw [if_neg (by rw [hp]; simp), rowsErr] at this
 split at this
 ·exact this
 ·rename_i h1; simpa using h1
theorem t12_frac {d : Nat} (hd : d ≤ 1000000) : FracB (t12n d) (t12d d) := by
 have hp := low_pos (n := (d : Int)) (d := 12) (by decide)
 have h1 := t12_len hd
 refine ⟨lowN d 12, lowD d 12, rfl, rfl, ?_, ?_, hp.1, hp.2⟩
 ·have := natAbs_len (lowN (d : Int) 12)
  have h2 : (itoa (lowN (d : Int) 12)).length ≤ 9 := h1.1
  omega
 ·have := natAbs_len (lowD (d : Int) 12)
  have h2 : (itoa (lowD (d : Int) 12)).length ≤ 9 := h1.2
  omega
theorem t12_pos {d : Nat} (hd : 0 < d) : ∃ n : Int, t12n d = itoa n ∧ 0 < n := by
 refine ⟨lowN d 12, rfl, ?_⟩
 have h := low_cross (n := (d : Int)) (d := 12) (by decide)
 have hp := (low_pos (n := (d : Int)) (d := 12) (by decide)).1
 have h2 : 0 < (d : Int) * lowD (d : Int) 12 := Int.mul_pos (by omega) hp
 omega
theorem beat_err {p : List Int} (hp : primeErr p = 0) {b : Bt} (hb : b.notes.length ≤ 12) : evErr p (beatE p.length b) = 0 := by
 unfold evErr beatE
 rw [if_pos (t12_frac (by omega)), if_pos (t12_pos (by omega)), if_neg (by rw [List.length_map]; omega)]
 refine chkAll_all hp fun x hx => ?_
 obtain ⟨y, hy, rfl⟩ := List.mem_map.1 hx
 exact (ivl_small (p := p) (l := y)).chk hp (by omega)
theorem beats_err {p : List Int} (hp : primeErr p = 0) : ∀ {v : List Bt}, (∀ b ∈ v, b.notes.length ≤ 12) → evsErr p (v.map (beatE p.length)) = 0
 | [], _ => rfl
 | b :: r, h => by
   rw [List.map_cons, evsErr, if_neg (by rw [beat_err hp (h b (by simp))]; simp)]
   exact beats_err hp fun c hc => h c (by simp [hc])
theorem vcsErr_all {p : List Int} : ∀ (r l : List Vc), (∀ k (hk : k < r.length), vcErr p (l ++ r.take k) (r[k]'hk) = 0) → vcsErr p l r = 0
 | [], _, _ => rfl
 | v :: r, l, h => by
   have h0 := h 0 (by simp)
   rw [List.take_zero, List.append_nil, List.getElem_cons_zero] at h0
   rw [vcsErr, if_neg (by rw [h0]; simp)]
   refine vcsErr_all r (l ++ [v]) fun k hk => ?_
   have h1 := h (k + 1) (by rw [List.length_cons]; omega)
   rw [List.take_succ_cons, List.getElem_cons_succ] at h1
   rw [List.append_assoc]
   exact h1
theorem nameOf_ne {i k : Nat} (hi : i < k) (hk : k < 3) : (nameOf i == nameOf k) = false := by
 have h : ∀ k : Fin 3, ∀ i : Fin 3, i.val < k.val → (nameOf i.val == nameOf k.val) = false := by decide
 exact h ⟨k, hk⟩ ⟨i, by omega⟩ hi
theorem nameOf_ok {k : Nat} (hk : k < 3) : nameB (nameOf k) = true := by
 have h : ∀ k : Fin 3, nameB (nameOf k.val) = true := by decide
 exact h ⟨k, hk⟩
theorem nameOf_len {k : Nat} : (nameOf k).length ≤ 6 := by
 exact match k with
 | 0 => by decide
 | 1 => by decide
 | 2 => by decide
 | k + 3 => by simp [nameOf]
theorem fits_mem {l : List (List Bt)} (h : fitsPl l = true) : l.length ≤ 3 ∧ ∀ i : Nat, (l[i]?.getD []).length ≤ 6 ∧ ∀ b ∈ (l[i]?.getD [] : List Bt), b.notes.length ≤ 4 := by
 unfold fitsPl at h
 rw [Bool.and_eq_true] at h
 obtain ⟨h1, h2⟩ := h
 refine ⟨by simpa using h2, fun i => ?_⟩
 by_cases hi : i < l.length
 ·rw [List.getElem?_eq_getElem hi]
  have := List.all_eq_true.1 h1 _ (List.getElem_mem hi)
  rw [Bool.and_eq_true, List.all_eq_true] at this
  exact ⟨by simpa using this.1, fun b hb => by simpa using this.2 b hb⟩
 ·rw [List.getElem?_eq_none (by omega)]
  exact ⟨Nat.zero_le _, fun b hb => by simp at hb⟩
theorem makeSc_err {n : Nat} {l : List (List Bt)} (h : fitsPl l = true) : scErr (makeSc n l) = 0 := by
 obtain ⟨h3, hm⟩ := fits_mem h
 have hp := (primesOf_ok n).1
 unfold scErr makeSc
 dsimp only
 rw [if_neg (by rw [hp]; simp), if_neg (by rw [makeTo_len]; omega)]
 refine vcsErr_all _ [] fun k hk => ?_
 rw [makeTo_len] at hk
 have hg := makeTo_get (p := primesOf n) (l := l) hk
 rw [List.getElem?_eq_getElem (by rw [makeTo_len]; exact hk)] at hg
 injection hg with hg
 rw [hg, List.nil_append, makeTo_take (by omega)]
 obtain ⟨h6, h4⟩ := hm k
 unfold vcErr voiceE
 dsimp only
 rw [if_pos (nameOf_ok (by omega)), if_neg, if_neg (by rw [List.length_map]; omega)]
 ·exact beats_err hp fun b hb => by have := h4 b hb; omega
 ·rw [Bool.not_eq_true, List.any_eq_false]
  intro w hw
  obtain ⟨i, hi, rfl⟩ := makeTo_mem hw
  rw [Bool.not_eq_true]
  exact nameOf_ne hi (by omega)
theorem makeSc_sm {n : Nat} {l : List (List Bt)} (h : fitsPl l = true) : ScSm (makeSc n l) := by
 obtain ⟨h3, hm⟩ := fits_mem h
 refine ⟨by show (makeTo _ _ _).length ≤ _; rw [makeTo_len]; omega, fun v hv => ?_, fun v hv => ?_, fun v hv x hx => ?_⟩
 all_goals
  obtain ⟨i, hi, rfl⟩ := makeTo_mem hv
  obtain ⟨h6, h4⟩ := hm i
 ·exact Nat.le_trans nameOf_len (by omega)
 ·show (List.map _ _).length ≤ _
  rw [List.length_map]
  omega
 ·obtain ⟨b, hb, rfl⟩ := List.mem_map.1 hx
  have h1 := t12_len (n := 1 + b.len % 24) (by omega)
  have h2 := h4 b hb
  refine ⟨Nat.le_trans h1.1 (by omega), Nat.le_trans h1.2 (by omega), ?_⟩
  show (List.map _ _).length ≤ _
  rw [List.length_map]
  omega
theorem makeSc_len {n : Nat} {l : List (List Bt)} (h : fitsPl l = true) : (makeSc n l).voices.length = l.length := by
 have h3 := (fits_mem h).1
 show (makeTo _ _ _).length = _
 rw [makeTo_len]
 omega
def durs (v : List Bt) : List Nat := v.map fun b => 1 + b.len % 24
def dursOf (l : List (List Bt)) : List (List Nat) := l.map durs
theorem makeTo_times {p : List Int} {l : List (List Bt)} : ∀ {k : Nat}, k ≤ l.length → TimesV (makeTo p l k) ((dursOf l).take k)
 | 0, _ => rfl
 | k + 1, h => by
   have ih := makeTo_times (p := p) (l := l) (k := k) (by omega)
   unfold TimesV at *
   rw [makeTo, List.map_append, ih]
   unfold dursOf
   rw [List.take_succ_eq_append_getElem (by rw [List.length_map]; omega), List.map_append, List.getElem_map, List.getElem?_eq_getElem (by omega)]
   congr 1
   simp [voiceE, durs, beatE, t12]
theorem makeSc_times {n : Nat} {l : List (List Bt)} (h : fitsPl l = true) : ShortV (makeSc n l).voices (dursOf l) := by
 obtain ⟨h3, hm⟩ := fits_mem h
 have e : (makeSc n l).voices = makeTo (primesOf n) l l.length := by unfold makeSc; rw [Nat.min_eq_left h3]
 have ht := makeTo_times (p := primesOf n) (l := l) (Nat.le_refl _)
 rw [List.take_of_length_le (by unfold dursOf; rw [List.length_map]; exact Nat.le_refl _), ← e] at ht
 refine ⟨ht, ?_, fun v hv => ?_, fun ds hds => ?_⟩
 ·rw [e, makeTo_len]; omega
 ·rw [e] at hv
  obtain ⟨i, hi, rfl⟩ := makeTo_mem hv
  have := (hm i).1
  show (List.map _ _).length ≤ _
  rw [List.length_map]
  omega
 ·unfold dursOf at hds
  obtain ⟨v, hv, rfl⟩ := List.mem_map.1 hds
  obtain ⟨i, hi⟩ := List.mem_iff_getElem?.1 hv
  have h6 := (hm i).1
  rw [hi] at h6
  have hb : ∀ l : List Bt, (durs l).sum ≤ 24 * l.length := by
   intro l
   induction l with
   | nil => exact Nat.zero_le _
   | cons b r ih =>
     unfold durs at *
     rw [List.map_cons, List.sum_cons, List.length_cons]
     omega
  have := hb v
  simp at h6
  omega
def endOf (dss : List (List Nat)) : Nat := dss.foldl (fun m ds => max m ds.sum) 0
theorem endOf_next {dss : List (List Nat)} {k : Nat} {ds : List Nat} (h : dss[k]? = some ds) : endOf (dss.take (k + 1)) = max (endOf (dss.take k)) ds.sum := by
 obtain ⟨hk, rfl⟩ := List.getElem?_eq_some_iff.1 h
 unfold endOf
 rw [List.take_succ_eq_append_getElem hk, List.foldl_append]
 rfl
theorem endOf_le {B : Nat} : ∀ (dss : List (List Nat)) (m : Nat), m ≤ B → (∀ ds ∈ dss, ds.sum ≤ B) → dss.foldl (fun m ds => max m ds.sum) m ≤ B
 | [], m, hm, _ => hm
 | d :: r, m, hm, h => endOf_le r _ (by have := h d (by simp); show max m d.sum ≤ B; omega) (fun x hx => h x (by simp [hx]))
set_option maxRecDepth 100000 in
set_option maxHeartbeats 8000000 in
theorem scLength_ok (pv vv : Value) (s : Sc) (dss : List (List Nat)) (w : World) (hS : Std w) (h : ScV w w.heap.size pv vv s) (hm : ScSm s) (he : scErr s = 0) (hd : ShortV s.voices dss) :
  Calls Tryz.prog 22 #[.agg #[pv, vv]] w fun e w' => e = .returned (.tuple #[.agg #[.string ⟨(t12n (endOf dss)).toArray⟩, .string ⟨(t12d (endOf dss)).toArray⟩], .int .i64 0]) ∧ Below w.heap.size w w' := by
 have hba : Below w.heap.size w ((w.alloc (.cells #[pv, vv] 29)).alloc (.cells #[.string ⟨#[]⟩, .string ⟨#[]⟩] 51)) := ((Below.refl _ _).alloc (Nat.le_refl _) _).alloc (by simp) _
 have HC := Lib.hid (scCheck_any pv vv s _ (hS.below hba (Nat.le_refl _)) (h.lift hba) hm)
 rw [he] at HC
 have hC1 := (Cells.new w 29 #[pv, vv]).alloc (.cells #[.string ⟨#[]⟩, .string ⟨#[]⟩] 51)
 have hC3 := Cells.new (w.alloc (.cells #[pv, vv] 29)) 51 #[.string ⟨#[]⟩, .string ⟨#[]⟩]
 rw [World.size_alloc] at hC3
 have HC1 := Lib.hid hC1
 have HC3 := Lib.hid hC3
 have HBA := Lib.hid hba
 have HS := Lib.hid hS
 obtain ⟨hp, A, c, rfl, _, hcm, hv⟩ := h
 obtain ⟨AP, cp, rfl, _⟩ := hp.shape
 have HV := Lib.hid hv
 have HD : Box (ShortV s.voices dss) := ⟨hd⟩
 have HLN : Box (s.voices.length = dss.length) := ⟨hd.tv.len⟩
 have hn := hd.vcs
 have HZ := Lib.hid (fun W => zero_any W)
 unfold maxLen at hcm
 obtain ⟨p, vs⟩ := s
 dsimp only at *
 clear hS hp hm he hba hC1 hC3 hv hd
 go_enter Tryz.func22, Tryz.ntmps22
 go_wp2_with fail
 refine HC.out.mono ?_
 rintro e w1 ⟨rfl, hb1⟩
 have HB1 := Lib.hid (HBA.out.trans (hb1.mono HBA.out.size))
 have hc1 := HC1.out.below hb1 (by simp; omega)
 have HC3' := Lib.hid (HC3.out.below hb1 (by simp))
 have HC1' := Lib.hid hc1
 clear hb1 hc1 HC HC1 HC3 HBA
 go_wp2_with fail
 refine (HZ.out _).mono ?_
 rintro e w2 ⟨rfl, hb2⟩
 have HB2 := Lib.hid (HB1.out.trans (hb2.mono HB1.out.size))
 have hw2 := HB2.out.size
 have hba2 : Below w2.heap.size w2 (w2.alloc (.cells #[.string ⟨#[48]⟩, .string ⟨#[49]⟩] 51)) := (Below.refl _ _).alloc (Nat.le_refl _) _
 have hb12 := hb2.trans (hba2.mono hb2.size)
 have hc1 := HC1'.out.below hb12 HC1'.out.lt
 obtain ⟨z0, z1⟩ := cel2 hc1
 have HR := Lib.hid (HC3'.out.below hb12 HC3'.out.lt)
 have HE0 := Cells.new w2 51 #[.string ⟨#[48]⟩, .string ⟨#[49]⟩]
 have HE : Hid (Cells (w2.alloc (.cells #[.string ⟨#[48]⟩, .string ⟨#[49]⟩] 51)) w2.heap.size 51 [.string ⟨(t12n (endOf (dss.take 0))).toArray⟩, .string ⟨(t12d (endOf (dss.take 0))).toArray⟩]) := Lib.hid (by
  have e0 : t12n 0 = [48] := congrArg Prod.fst t12_zero
  have e1 : t12d 0 = [49] := congrArg Prod.snd t12_zero
  show Cells _ _ _ [.string ⟨(t12n 0).toArray⟩, .string ⟨(t12d 0).toArray⟩]
  rw [e0, e1]
  exact HE0)
 have HB3 := Lib.hid (HB2.out.trans (hba2.mono hw2))
 have hrlt := HC3'.out.lt
 have hrle : w1.heap.size ≤ w2.heap.size := hb2.size
 clear hb2 hba2 hb12 hc1 HC1' HC3' HB1 HB2 HE0 HZ
 obtain ⟨EB, hEB⟩ : ∃ EB, EB = w2.heap.size := ⟨_, rfl⟩
 rw [← hEB] at HE
 have hRE : w.heap.size + 1 < EB := by omega
 go_wp2_with fail
 rw [← hEB]
 clear hEB
 go_loopw [19] (fun i wr => ∃ k : Nat, k ≤ vs.length ∧ i = .int .i64 k ∧ Cells wr EB 51 [.string ⟨(t12n (endOf (dss.take k))).toArray⟩, .string ⟨(t12d (endOf (dss.take k))).toArray⟩] ∧ Cells wr (w.heap.size + 1) 51 [.string ⟨#[]⟩, .string ⟨#[]⟩] ∧ Below w.heap.size w wr) (fun i _ => vs.length - (intOf i).toNat)
 case atStart => exact ⟨0, Nat.zero_le _, rfl, HE.out, HR.out, HB3.out⟩
 case round =>
  clear HE HR HB3 z0 z1
  obtain ⟨k, hk, rfl, he, hr, hbw⟩ := hrel
  by_cases hlt : k < vs.length
  ·obtain ⟨b1, o1, A1, C1, rfl, hb1, _, q0, q1, _, _, hev⟩ := (HV.out.lift hbw).at_ hlt
   obtain ⟨ds, hdk, hto⟩ := HD.out.tv.at_ hlt
   have hel := HD.out.evs _ (List.getElem_mem hlt)
   have hsm := HD.out.sum ds (List.mem_of_getElem? hdk)
   have HNX : Box (endOf (dss.take (k + 1)) = max (endOf (dss.take k)) ds.sum) := ⟨endOf_next hdk⟩
   have hem : endOf (dss.take k) ≤ 1000000 := endOf_le _ 0 (Nat.zero_le _) (fun x hx => HD.out.sum x (List.mem_of_mem_take hx))
   have HTL : Box (ds.length = (vs[k]'hlt).evs.length) := ⟨hto.len.symm⟩
   generalize vs[k]'hlt = v at *
   obtain ⟨nm, es⟩ := v
   dsimp only at *
   generalize endOf (dss.take k) = m at *
   have hba : Below wr.heap.size wr (wr.alloc (.cells #[.string ⟨nm.toArray⟩, .slice A1 es.length C1] 48)) := (Below.refl _ _).alloc (Nat.le_refl _) _
   have HBW := Lib.hid (hbw.trans (hba.mono hbw.size))
   have HE1 := Lib.hid (he.below hba he.lt)
   have HR1 := Lib.hid (hr.below hba hr.lt)
   have HST := Lib.hid (starts_any nm A1 C1 es ds _ (HS.out.below HBW.out (Nat.le_refl _)) (hev.lift hba) hto hsm (by omega))
   have HSL : Box ((strt ds)[ds.length]? = some ds.sum) := ⟨by have := strt_last (ds := ds) (k := ds.length) (Nat.le_refl _); rwa [List.take_length] at this⟩
   have HSN : Box ((strt ds).length = ds.length + 1) := ⟨strt_len ds⟩
   have hdl : ds.length ≤ 1000 := by have := HTL.out; omega
   have hws := HBW.out.size
   clear he hr hba hbw hev hto hdk hb1
   generalize strt ds = sd at *
   go_wp2_with fail
   refine HST.out.mono ?_
   rintro e w3 ⟨⟨v3, rfl, ht3⟩, hb3⟩
   obtain ⟨A3, c3, rfl, _, _, h3t⟩ := ht3.shape
   obtain ⟨b9, o9, rfl, hb9, x0, x1⟩ := TmT.at_ h3t HSL.out
   have HB3 := Lib.hid (HBW.out.trans (hb3.mono hws))
   have HE3 := Lib.hid (HE1.out.below hb3 HE1.out.lt)
   have HR3 := Lib.hid (HR1.out.below hb3 HR1.out.lt)
   have HS3 := Lib.hid (HS.out.below HB3.out (Nat.le_refl _))
   obtain ⟨z0, z1⟩ := cel2 HE3.out
   have HMX := Lib.hid (fun W => tMax_any m ds.sum W hem hsm)
   rw [HSN.out]
   have hw1 : IntKind.i64.wrap (((ds.length + 1 : Nat) : Int) - 1) = (ds.length : Int) := by rw [show ((ds.length + 1 : Nat) : Int) - 1 = (ds.length : Int) by omega]; exact IntWalk.i64_in _ (by omega)
   have hw0 : IntKind.i64.wrap (ds.length : Int) = (ds.length : Int) := IntWalk.i64_in _ (by omega)
   have hi1 : (0 : Int) ≤ (ds.length : Int) := by omega
   have hi2 : (ds.length : Int) < (ds.length : Int) + 1 := by omega
   have hw3 := HB3.out.size
   have hB : Below w3.heap.size w3 w3.drew := below_to_drew (Below.refl _ _)
   clear ht3 h3t hb3 HE1 HR1 HBW HST hb9
   generalize ds.sum = sm at *
   generalize ds.length = dl at *
   go_wp2_with fail
   go_region_law (first
    | (go_simp; go_at_call 65; (with_reducible refine (HMX.out _).mono ?_); rintro e wA ⟨rfl, hbk⟩; replace hB := hB.trans (hbk.mono hB.size); clear hbk; have hcA := HE3.out.below hB HE3.out.lt; obtain ⟨a0, a1⟩ := cel2 hcA; have f0 := hcA.free 0; have f1 := hcA.free 1)
    | fail)
   all_goals
    have HBN := Lib.hid (HB3.out.trans (hB.mono hw3))
    have HRN := Lib.hid (HR3.out.below hB HR3.out.lt)
    have HCA := Lib.hid hcA
    clear hB hcA a0 a1 f0 f1
    go_wp2_with fail
    go_roundw
    case rel => exact ⟨k + 1, by omega, by go_num, by rw [HNX.out]; exact (HCA.out.set 0 _).set 1 _, (HRN.out.far (p := ⟨EB, 0, Option.none⟩) (by dsimp only; omega) _).far (p := ⟨EB, 1, Option.none⟩) (by dsimp only; omega) _, (HBN.out.setCell (p := ⟨EB, 0, Option.none⟩) (by show _ ≤ EB; omega) _).setCell (p := ⟨EB, 1, Option.none⟩) (by show _ ≤ EB; omega) _⟩
    case measure => simp [intOf]; omega
  ·obtain rfl : k = vs.length := by omega
   rw [List.take_of_length_le (by rw [HLN.out]; exact Nat.le_refl _)] at he
   obtain ⟨z0, z1⟩ := cel2 he
   obtain ⟨r0, r1⟩ := cel2 hr
   have y0 := hr.free 0
   have y1 := hr.free 1
   go_wp2_with fail
   refine bodyPost_ret (v := .tuple #[.agg #[.string ⟨(t12n (endOf dss)).toArray⟩, .string ⟨(t12d (endOf dss)).toArray⟩], .int .i64 0]) (by simp (maxDischargeDepth := 10) [results, Tryz.results22, go_sem, r0, r1]) rfl ⟨rfl, ?_⟩
   exact (hbw.setCell (by simp) _).setCell (by simp) _
theorem SnO.below {w w' : World} {base : Nat} {v : Value} {l : List (Nat × Nat)} (h : SnO w base v l) (hb : Below w.heap.size w w') : SnO w' base v l := by
 obtain ⟨css, h⟩ := h
 exact ⟨css, h.below hb fun _ _ _ h => h⟩
theorem SnO.shape {w : World} {base : Nat} {v : Value} {l : List (Nat × Nat)} (h : SnO w base v l) : ∃ A c, v = .slice A l.length c ∧ l.length ≤ c ∧ c ≤ maxLen ∧ SnT w w.heap.size A l := by
 obtain ⟨css, h⟩ := h
 exact h.shape
theorem SnO.rebase {w : World} {base b : Nat} {v : Value} {l : List (Nat × Nat)} (h : SnO w base v l) (hb : b ≤ base) : SnO w b v l := by
 obtain ⟨css, h⟩ := h
 exact ⟨css, h.rebase hb⟩
theorem Tryz.info_sound : (Tryz.prog.info? 182).map (fun i => (i.zero, i.size, i.bytes)) = some (some (.agg #[.int .i64 0, .int .i64 0]), 2, 16) := by kernel_rfl
theorem sndTo_len (f g : Nat → Bool) (i : Nat) (l : List Nat) : ∀ k, (sndTo f g i l k).length ≤ k
 | 0 => Nat.le_refl _
 | k + 1 => by
   have := sndTo_len f g i l k
   rw [sndTo, List.length_append]
   split <;> simp <;> omega
theorem sndAll_len (f g : Nat → Bool) (all : List (List Nat)) (M : Nat) (h : ∀ l ∈ all, l.length ≤ M + 1) : ∀ i, i ≤ all.length → (sndAll f g all i).length ≤ i * M
 | 0, _ => by simp [sndAll]
 | i + 1, hi => by
   have h1 := sndAll_len f g all M h i (by omega)
   have h2 := sndTo_len f g i (all[i]?.getD []) ((all[i]?.getD []).length - 1)
   have h3 : (all[i]?.getD []).length ≤ M + 1 := by rw [List.getElem?_eq_getElem (by omega : i < all.length)]; exact h _ (List.getElem_mem _)
   rw [sndAll, List.length_append, Nat.add_mul]
   omega
set_option maxRecDepth 100000 in
set_option maxHeartbeats 8000000 in
theorem sounding_any (A : Option Addr) (c : Nat) (all : List (List Nat)) (tn td : List UInt8) (c1 c2 : Nat → Int) (w : World) (hS : Std w) (h : TsT w w.heap.size A all) (hl : all.length ≤ 1000) (hll : ∀ l ∈ all, 0 < l.length ∧ l.length ≤ 1001) (hb : ∀ l ∈ all, ∀ a ∈ l, a ≤ 1000000)
  (hr1 : ∀ a, c1 a = -1 ∨ c1 a = 0 ∨ c1 a = 1)
  (HC1 : Hid (∀ a W, a ≤ 1000000 → Std W → Calls Tryz.prog 70 #[.agg #[.string ⟨(t12n a).toArray⟩, .string ⟨(t12d a).toArray⟩], .agg #[.string ⟨tn.toArray⟩, .string ⟨td.toArray⟩]] W fun e w' => e = .returned (.int .i64 (c1 a)) ∧ Below W.heap.size W w'))
  (HC2 : Hid (∀ a W, a ≤ 1000000 → Std W → Calls Tryz.prog 70 #[.agg #[.string ⟨tn.toArray⟩, .string ⟨td.toArray⟩], .agg #[.string ⟨(t12n a).toArray⟩, .string ⟨(t12d a).toArray⟩]] W fun e w' => e = .returned (.int .i64 (c2 a)) ∧ Below W.heap.size W w')) :
  Calls Tryz.prog 66 #[.slice A all.length c, .agg #[.string ⟨tn.toArray⟩, .string ⟨td.toArray⟩]] w fun e w' => (∃ v, e = .returned v ∧ SnO w' w.heap.size v (snd (fun a => decide (c1 a ≤ 0)) (fun b => decide (c2 b < 0)) all)) ∧ Below w.heap.size w w' := by
 obtain ⟨i0, hi0, hz0, hz1, hz2⟩ := info_parts Tryz.info_sound
 have HS := Lib.hid hS
 have HR1 := Lib.hid hr1
 have HA := Lib.hid h
 have HLL : Box (∀ l ∈ all, 0 < l.length ∧ l.length ≤ 1001) := ⟨hll⟩
 have HBD : Box (∀ l ∈ all, ∀ a ∈ l, a ≤ 1000000) := ⟨hb⟩
 have HBA := Lib.hid ((Below.refl w.heap.size w).alloc (Nat.le_refl _) (.cells #[.string ⟨tn.toArray⟩, .string ⟨td.toArray⟩] 51))
 have HN := Lib.hid (Cells.new w 51 #[.string ⟨tn.toArray⟩, .string ⟨td.toArray⟩])
 have HSN : Box (snd (fun a => decide (c1 a ≤ 0)) (fun b => decide (c2 b < 0)) all = sndAll (fun a => decide (c1 a ≤ 0)) (fun b => decide (c2 b < 0)) all all.length) := ⟨rfl⟩
 have HSL : Box (∀ i, i ≤ all.length → (sndAll (fun a => decide (c1 a ≤ 0)) (fun b => decide (c2 b < 0)) all i).length ≤ i * 1000) := ⟨sndAll_len _ _ all 1000 (fun l hl => (hll l hl).2)⟩
 have HSS : Box (∀ i, sndAll (fun a => decide (c1 a ≤ 0)) (fun b => decide (c2 b < 0)) all (i + 1) = sndAll (fun a => decide (c1 a ≤ 0)) (fun b => decide (c2 b < 0)) all i ++ sndTo (fun a => decide (c1 a ≤ 0)) (fun b => decide (c2 b < 0)) i (all[i]?.getD []) ((all[i]?.getD []).length - 1)) := ⟨fun i => rfl⟩
 have HST : Box (∀ i l k, sndTo (fun a => decide (c1 a ≤ 0)) (fun b => decide (c2 b < 0)) i l (k + 1) = sndTo (fun a => decide (c1 a ≤ 0)) (fun b => decide (c2 b < 0)) i l k ++ (if decide (c1 (l[k]?.getD 0) ≤ 0) && decide (c2 (l[k + 1]?.getD 0) < 0) then [(i, k)] else [])) := ⟨fun i l k => rfl⟩
 have HSTL : Box (∀ i l k, (sndTo (fun a => decide (c1 a ≤ 0)) (fun b => decide (c2 b < 0)) i l k).length ≤ k) := ⟨fun i l k => sndTo_len _ _ i l k⟩
 have HST0 : Box (∀ i l, sndTo (fun a => decide (c1 a ≤ 0)) (fun b => decide (c2 b < 0)) i l 0 = []) := ⟨fun i l => rfl⟩
 have HSA0 : Box (sndAll (fun a => decide (c1 a ≤ 0)) (fun b => decide (c2 b < 0)) all 0 = []) := ⟨rfl⟩
 generalize snd (fun a => decide (c1 a ≤ 0)) (fun b => decide (c2 b < 0)) all = out at *
 generalize sndAll (fun a => decide (c1 a ≤ 0)) (fun b => decide (c2 b < 0)) all = sa at *
 generalize sndTo (fun a => decide (c1 a ≤ 0)) (fun b => decide (c2 b < 0)) = sto at *
 clear hS h hll hb hr1
 go_enter Tryz.func66, Tryz.ntmps66
 go_wp2_with fail
 go_loopw [5, 11] (fun o i wr => ∃ k : Nat, k ≤ all.length ∧ i = .int .i64 k ∧ SnO wr (w.heap.size + 1) o (sa k) ∧ Cells wr w.heap.size 51 [.string ⟨tn.toArray⟩, .string ⟨td.toArray⟩] ∧ Below w.heap.size w wr) (fun _ i _ => all.length - (intOf i).toNat)
 case atStart => exact ⟨0, Nat.zero_le _, rfl, by rw [HSA0.out]; exact ⟨[], LO.nil _ _⟩, HN.out, HBA.out⟩
 case round =>
  clear HN HBA HSA0
  obtain ⟨k, hk, rfl, ht, hc, hbw⟩ := hrel
  by_cases hlt : k < all.length
  ·obtain ⟨b1, o1, A1, C1, rfl, hb1, p0, _, hCm, htm⟩ := (HA.out.lift hbw).at_ hlt
   have hlg : all[k]?.getD [] = all[k] := by rw [List.getElem?_eq_getElem hlt]; rfl
   have HNX : Box (sa (k + 1) = sa k ++ sto k (all[k]'hlt) ((all[k]'hlt).length - 1)) := ⟨by rw [HSS.out, hlg]⟩
   obtain ⟨hl0, hl1⟩ := HLL.out _ (List.getElem_mem hlt)
   have HBL : Box (∀ a ∈ all[k]'hlt, a ≤ 1000000) := ⟨HBD.out _ (List.getElem_mem hlt)⟩
   have hsk := HSL.out k hk
   generalize all[k]'hlt = l at *
   have HTM := Lib.hid htm
   have HT : Hid (SnO wr (w.heap.size + 1) _ (sa k ++ sto k l 0)) := Lib.hid (by rw [HST0.out, List.append_nil]; exact ht)
   have HC := Lib.hid hc
   have HBW := Lib.hid hbw
   have hw1 : IntKind.i64.wrap ((l.length : Int) - 1) = ((l.length - 1 : Nat) : Int) := by rw [show (l.length : Int) - 1 = ((l.length - 1 : Nat) : Int) by omega]; exact IntWalk.i64_in _ (by omega)
   rename World => W1
   have hws := hbw.size
   clear ht hc hbw hlg htm hb1
   go_wp2_with fail
   go_loopw [5, 19] (fun o i wr => ∃ j : Nat, j ≤ l.length - 1 ∧ i = .int .i64 j ∧ SnO wr (w.heap.size + 1) o (sa k ++ sto k l j) ∧ Cells wr w.heap.size 51 [.string ⟨tn.toArray⟩, .string ⟨td.toArray⟩] ∧ KpT [182] W1.heap.size W1 wr ∧ Below w.heap.size w wr) (fun _ i _ => (l.length - 1) - (intOf i).toNat)
   case atStart => exact ⟨0, Nat.zero_le _, rfl, HT.out, HC.out, KpT.refl _ _ _, HBW.out⟩
   case round =>
    clear HT HC
    obtain ⟨j, hj, rfl, ht, hc, hkp, hbx⟩ := hrel
    by_cases hjl : j < l.length - 1
    ·obtain ⟨a, ha⟩ : ∃ a, l[j]? = some a := ⟨_, List.getElem?_eq_getElem (by omega)⟩
     obtain ⟨b, hb⟩ : ∃ b, l[j + 1]? = some b := ⟨_, List.getElem?_eq_getElem (by omega)⟩
     have hla := HBL.out a (List.mem_of_getElem? ha)
     have hlb := HBL.out b (List.mem_of_getElem? hb)
     have HTX : Hid (TmT wr W1.heap.size A1 l) := Lib.hid (LT.keep HTM.out hkp (by decide) (Nat.le_refl _) fun _ _ _ h => h)
     obtain ⟨b9, o9, rfl, hb9, x0, x1⟩ := TmT.at_ HTX.out ha
     obtain ⟨b8, o8, e8, _, y0, y1⟩ := TmT.at_ HTX.out hb
     injection e8 with e8
     injection e8 with e8 e7 _
     subst e8 e7
     obtain ⟨z0, z1⟩ := cel2 hc
     have HST1 : Box (sto k l (j + 1) = sto k l j ++ (if decide (c1 a ≤ 0) && decide (c2 b < 0) then [(k, j)] else [])) := ⟨by rw [HST.out, ha, hb]; rfl⟩
     have hsl := HSTL.out k l j
     have HA1 := Lib.hid (fun W h => HC1.out a W hla h)
     have HB1 := Lib.hid (fun W h => HC2.out b W hlb h)
     have HBX := Lib.hid hbx
     have HKP := Lib.hid hkp
     have HSW := Lib.hid (HS.out.below HBX.out (Nat.le_refl _))
     have hw2 : IntKind.i64.wrap ((j : Int) + 1) = (j : Int) + 1 := IntWalk.i64_in _ (by omega)
     have hi1 : (0 : Int) ≤ (j : Int) := by omega
     have hi2 : (j : Int) < (l.length : Int) := by omega
     have hi3 : (0 : Int) ≤ (j : Int) + 1 := by omega
     have hi4 : (j : Int) + 1 < (l.length : Int) := by omega
     have HCR := Lib.hid hc
     have HT1 := Lib.hid ht
     have hwx := hkp.size
     have hcl := hc.lt
     have hB : Below wr.heap.size wr wr.drew := below_to_drew (Below.refl _ _)
     have hc1c := HR1.out a
     clear ha hb hla hlb hbx hkp ht hc hb9
     generalize c1 a = ca at *
     generalize c2 b = cb at *
     by_cases h1 : ca ≤ 0
     ·by_cases h2 : cb < 0
      ·have HNS : Box (sto k l (j + 1) = sto k l j ++ [(k, j)]) := ⟨by rw [HST1.out, decide_eq_true h1, decide_eq_true h2]; rfl⟩
       clear HST1
       go_wp2_with fail
       go_region_held3 (fun w' => w'.cell? ⟨b9, o9 + j * 2, Option.none⟩ = some (.string ⟨(t12n a).toArray⟩) ∧ w'.cell? ⟨b9, o9 + j * 2 + 1, Option.none⟩ = some (.string ⟨(t12d a).toArray⟩) ∧ w'.cell? ⟨b9, o9 + (j + 1) * 2, Option.none⟩ = some (.string ⟨(t12n b).toArray⟩) ∧ w'.cell? ⟨b9, o9 + (j + 1) * 2 + 1, Option.none⟩ = some (.string ⟨(t12d b).toArray⟩) ∧ w'.cell? ⟨w.heap.size, 0, Option.none⟩ = some (.string ⟨tn.toArray⟩) ∧ w'.cell? ⟨w.heap.size, 1, Option.none⟩ = some (.string ⟨td.toArray⟩))
        (first | exact ⟨keep_cell x0 hB, keep_cell x1 hB, keep_cell y0 hB, keep_cell y1 hB, keep_cell z0 hB, keep_cell z1 hB⟩ | go_keep)
        ((first
        | (go_at_call 70; (with_reducible refine (HA1.out _ (HSW.out.below hB (Nat.le_refl _))).mono ?_); rintro e wA ⟨rfl, hbk⟩; replace hB := hB.trans (hbk.mono hB.size); clear hbk)
        | (go_at_call 70; (with_reducible refine (HB1.out _ (HSW.out.below hB (Nat.le_refl _))).mono ?_); rintro e wA ⟨rfl, hbk⟩; replace hB := hB.trans (hbk.mono hB.size); clear hbk)))
       have HBN := Lib.hid (HBX.out.trans (hB.mono HBX.out.size))
       have HCN := Lib.hid (HCR.out.below hB hcl)
       have HBN1 := Lib.hid (HKP.out.trans (KpT.of_below (hB.mono hwx)))
       obtain ⟨css, hlo⟩ := HT1.out.below hB
       have HLO := Lib.hid hlo
       have HO := Lib.hid hlo.own
       have HLEN : Box ((sa k ++ sto k l j).length ≤ 2001000) := ⟨by rw [List.length_append]; omega⟩
       have hlen := HLEN.out
       have hbw0 : w.heap.size + 1 ≤ wA.heap.size := HCN.out.lt
       have hwA : W1.heap.size ≤ wA.heap.size := HBN1.out.size
       obtain ⟨st, hst⟩ : ∃ st, sa k ++ sto k l j = st := ⟨_, rfl⟩
       have HST9 : Box (sa k ++ sto k l j = st) := ⟨hst⟩
       rw [hst] at HLO HO HLEN hlen
       clear hB hlo HT1 hst
       go_wp2_with (at_builtin; refine wpList_append_own _ rfl _ _ _ rfl (w.heap.size + 1) 182 i0 (.agg #[.int .i64 0, .int .i64 0]) 2 16 Tryz.underlying70 hi0 hz0 hz1 hz2 rfl (by decide) _ _ _ rfl (HO.out.alloc _) ⟨wA.heap.size, 0, Option.none⟩ 1 1 [.int .i64 k, .int .i64 j] rfl rfl (World.news_of_block (cs := #[.int .i64 k, .int .i64 j]) (t := 182) (fr := (0, 0)) (heap_alloc_new wA _)) (by simp [Value.oneCell']) (by unfold maxLen; omega) (by omega) (by simp; omega) ?_; intro v9 w9 hown9 hg9 _)
       have HTN : Hid (SnO w9 (w.heap.size + 1) v9 (st ++ [(k, j)])) := Lib.hid ⟨css ++ [[.int .i64 k, .int .i64 j]], HLO.out.push (fun _ _ _ h => h) (show SnQ (k, j) [.int .i64 k, .int .i64 j] from rfl) rfl hown9⟩
       have HC9 := Lib.hid ((HCN.out.alloc (.cells #[.int .i64 k, .int .i64 j] 182)).grown hg9 (fun e => by have := (HO.out.lt _ e.symm).1; omega))
       have HK9 := Lib.hid ((HBN1.out.alloc hwA (.cells #[.int .i64 k, .int .i64 j] 182)).grown (HO.out.alloc _) (by simp) hg9)
       have HB9 := Lib.hid ((HBN.out.alloc (by omega) (.cells #[.int .i64 k, .int .i64 j] 182)).grown hg9 (by simp; omega) (fun i hi => by have := (HO.out.lt i hi).1; omega))
       go_roundw
       case rel => exact ⟨j + 1, by omega, by go_num, by rw [HNS.out, ← List.append_assoc, HST9.out]; exact HTN.out, HC9.out, HK9.out, HB9.out⟩
       case measure => simp [intOf]; omega
      ·have HNS : Box (sto k l (j + 1) = sto k l j) := ⟨by rw [HST1.out, decide_eq_false h2, Bool.and_false]; exact List.append_nil _⟩
       clear HST1
       go_wp2_with fail
       go_region_held3 (fun w' => w'.cell? ⟨b9, o9 + j * 2, Option.none⟩ = some (.string ⟨(t12n a).toArray⟩) ∧ w'.cell? ⟨b9, o9 + j * 2 + 1, Option.none⟩ = some (.string ⟨(t12d a).toArray⟩) ∧ w'.cell? ⟨b9, o9 + (j + 1) * 2, Option.none⟩ = some (.string ⟨(t12n b).toArray⟩) ∧ w'.cell? ⟨b9, o9 + (j + 1) * 2 + 1, Option.none⟩ = some (.string ⟨(t12d b).toArray⟩) ∧ w'.cell? ⟨w.heap.size, 0, Option.none⟩ = some (.string ⟨tn.toArray⟩) ∧ w'.cell? ⟨w.heap.size, 1, Option.none⟩ = some (.string ⟨td.toArray⟩))
        (first | exact ⟨keep_cell x0 hB, keep_cell x1 hB, keep_cell y0 hB, keep_cell y1 hB, keep_cell z0 hB, keep_cell z1 hB⟩ | go_keep)
        ((first
        | (go_at_call 70; (with_reducible refine (HA1.out _ (HSW.out.below hB (Nat.le_refl _))).mono ?_); rintro e wA ⟨rfl, hbk⟩; replace hB := hB.trans (hbk.mono hB.size); clear hbk)
        | (go_at_call 70; (with_reducible refine (HB1.out _ (HSW.out.below hB (Nat.le_refl _))).mono ?_); rintro e wA ⟨rfl, hbk⟩; replace hB := hB.trans (hbk.mono hB.size); clear hbk)))
       have HBN := Lib.hid (HBX.out.trans (hB.mono HBX.out.size))
       have HCN := Lib.hid (HCR.out.below hB hcl)
       have HBN1 := Lib.hid (HKP.out.trans (KpT.of_below (hB.mono hwx)))
       have HTN := Lib.hid (HT1.out.below hB)
       clear hB
       go_wp2_with fail
       go_roundw
       case rel => exact ⟨j + 1, by omega, by go_num, by rw [HNS.out]; exact HTN.out, HCN.out, HBN1.out, HBN.out⟩
       case measure => simp [intOf]; omega
     ·have HNS : Box (sto k l (j + 1) = sto k l j) := ⟨by rw [HST1.out, decide_eq_false h1, Bool.false_and]; exact List.append_nil _⟩
      obtain rfl : ca = 1 := by omega
      clear h1 hc1c
      clear HST1
      go_wp2_with fail
      first
       | (go_region_law (first
           | (go_simp; go_at_call 70; (with_reducible refine (HA1.out _ (HSW.out.below hB (Nat.le_refl _))).mono ?_); rintro e wA ⟨rfl, hbk⟩; replace hB := hB.trans (hbk.mono hB.size); clear hbk)
           | fail))
       | fail
      all_goals
       have HBN := Lib.hid (HBX.out.trans (hB.mono HBX.out.size))
       have HCN := Lib.hid (HCR.out.below hB hcl)
       have HBN1 := Lib.hid (HKP.out.trans (KpT.of_below (hB.mono hwx)))
       have HTN := Lib.hid (HT1.out.below hB)
       clear hB
       go_wp2_with fail
       go_roundw
       case rel => exact ⟨j + 1, by omega, by go_num, by rw [HNS.out]; exact HTN.out, HCN.out, HBN1.out, HBN.out⟩
       case measure => simp [intOf]; omega
    ·obtain rfl : j = l.length - 1 := by omega
     rw [← HNX.out] at ht
     go_wp2_with fail
     go_roundw
     case rel => exact ⟨k + 1, by omega, by go_num, ht, hc, hbx⟩
     case measure => simp [intOf]; omega
  ·obtain rfl : k = all.length := by omega
   rw [← HSN.out] at ht
   obtain ⟨A9, c9, rfl, _⟩ := ht.shape
   go_wp2_with fail
   go_ret
   exact ⟨⟨_, rfl, ht.rebase (Nat.le_succ _)⟩, hbw⟩
def okV (v : List Bt) : Bool := decide (v.length ≤ 6) && v.all fun b => decide (b.notes.length ≤ 4)
theorem okV_drop {l : List (List Bt)} {k : Nat} (hk : k < l.length) : (l.drop k).all okV = (okV (l[k]'hk) && (l.drop (k + 1)).all okV) := by rw [List.drop_eq_getElem_cons hk, List.all_cons]
theorem okB_drop {l : List Bt} {k : Nat} (hk : k < l.length) : (l.drop k).all (fun b => decide (b.notes.length ≤ 4)) = (decide ((l[k]'hk).notes.length ≤ 4) && (l.drop (k + 1)).all fun b => decide (b.notes.length ≤ 4)) := by rw [List.drop_eq_getElem_cons hk, List.all_cons]
set_option maxRecDepth 100000 in
set_option maxHeartbeats 2000000 in
theorem fits48_any (n : Nat) (v : Value) (l : List (List Bt)) (w : World) (hv : PlA w v l) :
  Calls Tryz.prog 10 #[.agg #[.int .u8 n, v]] w fun e w' => e = .returned (.bool (fitsPl l)) ∧ Below w.heap.size w w' := by
 obtain ⟨A, c, rfl, hlc, hcm, hl⟩ := hv
 obtain ⟨W, hW⟩ : ∃ W, W = w.alloc (.cells #[.int .u8 n, .slice A l.length c] 39) := ⟨_, rfl⟩
 have hba : Below w.heap.size w W := by rw [hW]; exact (Below.refl _ _).alloc (Nat.le_refl _) _
 have hcl : Cells W w.heap.size 39 [.int .u8 n, .slice A l.length c] := by rw [hW]; exact Cells.new w 39 #[.int .u8 n, .slice A l.length c]
 obtain ⟨z0, z1⟩ := cel2 hcl
 have HL := Lib.hid (hl.lift hba (fun _ _ _ h => h.lift hba))
 have HB := Lib.hid hba
 have HF : Box (fitsPl l = ((l.drop 0).all okV && decide (l.length ≤ 3))) := ⟨rfl⟩
 generalize fitsPl l = out at *
 unfold maxLen at hcm
 clear hl hba hcl
 go_enter Tryz.func10, Tryz.ntmps10
 go_upto_region 1 with (fail)
 rw [← hW]
 clear hW
 go_wp2_with fail
 go_loop [3] (fun i => ∃ k : Nat, k ≤ l.length ∧ i = .int .i64 k ∧ Box (out = ((l.drop k).all okV && decide (l.length ≤ 3)))) (fun i => l.length - (intOf i).toNat)
 case atStart => exact ⟨0, Nat.zero_le _, rfl, HF⟩
 case round =>
  clear HF
  obtain ⟨k, hk, rfl, HK⟩ := hrel
  by_cases hlt : k < l.length
  ·obtain ⟨b1, o1, A1, c1, rfl, hb1, q0, h1c, h1m, h1l⟩ := HL.out.voice hlt
   have HN : Box (out = (okV (l[k]'hlt) && ((l.drop (k + 1)).all okV && decide (l.length ≤ 3)))) := ⟨by rw [HK.out, okV_drop hlt, Bool.and_assoc]⟩
   have H1 := Lib.hid h1l
   clear HK h1l
   generalize l[k]'hlt = u at *
   unfold maxLen at h1m
   by_cases h6 : 6 < u.length
   ·have HE : Box (out = false) := ⟨by rw [HN.out]; unfold okV; rw [decide_eq_false (by omega)]; rfl⟩
    go_wp2_with fail
    go_ret
    exact ⟨ret1 (congrArg Value.bool HE.out.symm), HB.out⟩
   ·have HV : Box (out = ((u.drop 0).all (fun b => decide (b.notes.length ≤ 4)) && ((l.drop (k + 1)).all okV && decide (l.length ≤ 3)))) := ⟨by rw [HN.out]; unfold okV; rw [decide_eq_true (show u.length ≤ 6 by omega)]; rfl⟩
    clear HN
    go_wp2_with fail
    go_loop [4] (fun i => ∃ j : Nat, j ≤ u.length ∧ i = .int .i64 j ∧ Box (out = ((u.drop j).all (fun b => decide (b.notes.length ≤ 4)) && ((l.drop (k + 1)).all okV && decide (l.length ≤ 3))))) (fun i => u.length - (intOf i).toNat)
    case atStart => exact ⟨0, Nat.zero_le _, rfl, HV⟩
    case round =>
     clear HV
     obtain ⟨j, hj, rfl, HJ⟩ := hrel
     by_cases hjl : j < u.length
     ·obtain ⟨b2, o2, A2, c2, rfl, hb2, q1, q2, _, h2c, h2m, _⟩ := H1.out.beat hjl
      have HN : Box (out = (decide ((u[j]'hjl).notes.length ≤ 4) && ((u.drop (j + 1)).all (fun b => decide (b.notes.length ≤ 4)) && ((l.drop (k + 1)).all okV && decide (l.length ≤ 3))))) := ⟨by rw [HJ.out, okB_drop hjl, Bool.and_assoc]⟩
      clear HJ
      generalize (u[j]'hjl).notes.length = m at *
      generalize (u[j]'hjl).len = ln at *
      unfold maxLen at h2m
      by_cases h4 : 4 < m
      ·have HE : Box (out = false) := ⟨by rw [HN.out, decide_eq_false (by omega)]; rfl⟩
       go_wp2_with fail
       go_ret
       exact ⟨ret1 (congrArg Value.bool HE.out.symm), HB.out⟩
      ·have HE : Box (out = ((u.drop (j + 1)).all (fun b => decide (b.notes.length ≤ 4)) && ((l.drop (k + 1)).all okV && decide (l.length ≤ 3)))) := ⟨by rw [HN.out, decide_eq_true (show m ≤ 4 by omega)]; rfl⟩
       go_wp2_with fail
       go_round
       case rel => exact ⟨j + 1, by omega, by go_num, HE⟩
       case measure => simp [intOf]; omega
     ·obtain rfl : j = u.length := by omega
      have HE : Box (out = ((l.drop (k + 1)).all okV && decide (l.length ≤ 3))) := ⟨by rw [HJ.out, List.drop_length]; rfl⟩
      clear HJ
      go_wp2_with fail
      go_round
      case rel => exact ⟨k + 1, by omega, by go_num, HE⟩
      case measure => simp [intOf]; omega
  ·obtain rfl : k = l.length := by omega
   have HE : Box (out = decide (l.length ≤ 3)) := ⟨by rw [HK.out, List.drop_length]; rfl⟩
   clear HK
   by_cases h3 : l.length ≤ 3
   ·rw [decide_eq_true h3] at HE
    have h3i : (l.length : Int) ≤ 3 := by omega
    go_wp2_with fail
    go_ret
    exact ⟨ret1 (congrArg Value.bool HE.out.symm), HB.out⟩
   ·rw [decide_eq_false h3] at HE
    have h3i : ¬ (l.length : Int) ≤ 3 := by omega
    go_wp2_with fail
    go_ret
    exact ⟨ret1 (congrArg Value.bool HE.out.symm), HB.out⟩
end Go.Proofs.YtaaeekahhhookaaGreatDoor
