import Derived.Test.YtaaeekahhhookaaGreatDoorGXECk
import Derived.Test.YtaaeekahhhookaaGreatDoorGXDMCk
import Derived.Laws.AppendOwnNone
import Derived.Test.YtaaeekahhhookaaGreatDoorGTACk
import Derived.Test.YtaaeekahhhookaaGreatDoorGXAMCk
import Derived.Deep.RegionHeld3
namespace Go.Proofs.YtaaeekahhhookaaGreatDoor
open Go.RowKit Go.Lib
def insN (a : Nat) : List Nat → List Nat
 | [] => [a]
 | b :: r => if a ≤ b then a :: b :: r else b :: insN a r
def isort : List Nat → List Nat
 | [] => []
 | a :: r => insN a (isort r)
theorem insN_perm (a : Nat) : ∀ l, (insN a l).Perm (a :: l)
 | [] => List.Perm.refl _
 | b :: r => by
   unfold insN
   split
   ·exact List.Perm.refl _
   ·exact ((insN_perm a r).cons b).trans (List.Perm.swap a b r)
theorem isort_perm : ∀ l : List Nat, (isort l).Perm l
 | [] => List.Perm.refl _
 | a :: r => (insN_perm a _).trans ((isort_perm r).cons a)
theorem insN_sorted (a : Nat) : ∀ l : List Nat, l.Pairwise (· ≤ ·) → (insN a l).Pairwise (· ≤ ·)
 | [], _ => by simp [insN]
 | b :: r, h => by
   unfold insN
   rw [List.pairwise_cons] at h
   split
   ·rename_i hab
    rw [List.pairwise_cons]
    refine ⟨fun x hx => ?_, List.pairwise_cons.2 h⟩
    rcases List.mem_cons.1 hx with rfl | hx
    ·exact hab
    ·have := h.1 x hx; omega
   ·rename_i hab
    rw [List.pairwise_cons]
    refine ⟨fun x hx => ?_, insN_sorted a r h.2⟩
    rcases List.mem_cons.1 ((insN_perm a r).mem_iff.1 hx) with rfl | hx
    ·omega
    ·exact h.1 x hx
theorem isort_sorted : ∀ l : List Nat, (isort l).Pairwise (· ≤ ·)
 | [] => List.Pairwise.nil
 | a :: r => insN_sorted a _ (isort_sorted r)
theorem isort_uniq {l l' : List Nat} (hp : l'.Perm l) (hs : ∀ (i j a b : Nat), i < j → l'[i]? = some a → l'[j]? = some b → a ≤ b) : l' = isort l := by
 refine List.Perm.eq_of_pairwise (le := fun a b => a ≤ b) (fun a b _ _ h1 h2 => by omega) ?_ (isort_sorted l) (hp.trans (isort_perm l).symm)
 rw [List.pairwise_iff_getElem]
 exact fun i j hi hj hij => hs i j _ _ hij (List.getElem?_eq_getElem hi) (List.getElem?_eq_getElem hj)
def ptsN (dss : List (List Nat)) : List Nat := ddN (isort (0 :: (dss.map strt).flatten))
def slcTo (all : List (List Nat)) (pts : List Nat) (k : Nat) : List (Nat × Nat × List (Nat × Nat)) := (List.range k).map fun i => (pts[i]?.getD 0, pts[i + 1]?.getD 0, sndN all (pts[i]?.getD 0))
def slcN (dss : List (List Nat)) : List (Nat × Nat × List (Nat × Nat)) := slcTo (dss.map strt) (ptsN dss) ((ptsN dss).length - 1)
theorem slcTo_next {all : List (List Nat)} {pts : List Nat} {k a b : Nat} (ha : pts[k]? = some a) (hb : pts[k + 1]? = some b) : slcTo all pts (k + 1) = slcTo all pts k ++ [(a, b, sndN all a)] := by
 unfold slcTo
 rw [List.range_succ, List.map_append]
 simp [ha, hb]
theorem slcTo_len (all : List (List Nat)) (pts : List Nat) (k : Nat) : (slcTo all pts k).length = k := by simp [slcTo]
theorem ddN_mem {l : List Nat} {a : Nat} (h : a ∈ ddN l) : a ∈ l := by
 unfold ddN at h
 obtain ⟨j, hj, rfl⟩ := List.mem_map.1 h
 have := kpN_lt hj
 rw [List.getElem?_eq_getElem this]
 exact List.getElem_mem this
theorem ddN_len (l : List Nat) : (ddN l).length ≤ l.length := by
 unfold ddN kpN
 rw [List.length_map]
 exact Nat.le_trans (List.length_filter_le _ _) (by simp)
theorem strt_le {ds : List Nat} {a : Nat} (h : a ∈ strt ds) : a ≤ ds.sum := by
 obtain ⟨k, hk, rfl⟩ := List.getElem_of_mem h
 rw [strt_len] at hk
 have h2 := runs_get 0 ds k (by omega)
 rw [show runs 0 ds = strt ds from rfl, List.getElem?_eq_getElem (by rw [strt_len]; omega)] at h2
 injection h2 with h2
 rw [h2]
 have := sum_take_le ds k
 omega
theorem pts_le {B : Nat} {dss : List (List Nat)} (h : ∀ ds ∈ dss, ds.sum ≤ B) {a : Nat} (ha : a ∈ 0 :: (dss.map strt).flatten) : a ≤ B := by
 rcases List.mem_cons.1 ha with rfl | ha
 ·exact Nat.zero_le _
 ·obtain ⟨l, hl, hal⟩ := List.mem_flatten.1 ha
  obtain ⟨ds, hds, rfl⟩ := List.mem_map.1 hl
  exact Nat.le_trans (strt_le hal) (h ds hds)
def SlO (w : World) (base : Nat) (v : Value) (l : List (Nat × Nat × List (Nat × Nat))) : Prop := ∃ css, LO 80 5 (SlQ w w.heap.size) w base v l css
theorem SlQ.keep {E : List TypeId} {B B' : Nat} {w w' : World} (hk : KpT E B w w') (h1 : 182 ∉ E) (hB : B ≤ B') {x : Nat × Nat × List (Nat × Nat)} {cs : List Value} (h : SlQ w B x cs) : SlQ w' B' x cs := by
 obtain ⟨A, c, e, h2, h3, h4⟩ := h
 exact ⟨A, c, e, h2, h3, LT.keep h4 hk h1 hB fun _ _ _ h => h⟩
theorem SlO.below {w w' : World} {base : Nat} {v : Value} {l : List (Nat × Nat × List (Nat × Nat))} (h : SlO w base v l) (hb : Below w.heap.size w w') : SlO w' base v l := by
 obtain ⟨css, h⟩ := h
 exact ⟨css, h.below hb fun _ _ _ h => h.keep (E := []) (KpT.of_below hb) (by simp) hb.size⟩
theorem SlO.shape {w : World} {base : Nat} {v : Value} {l : List (Nat × Nat × List (Nat × Nat))} (h : SlO w base v l) : ∃ A c, v = .slice A l.length c ∧ l.length ≤ c ∧ c ≤ maxLen ∧ SlT w w.heap.size A l := by
 obtain ⟨css, h⟩ := h
 exact h.shape
theorem SlO.rebase {w : World} {base b : Nat} {v : Value} {l : List (Nat × Nat × List (Nat × Nat))} (h : SlO w base v l) (hb : b ≤ base) : SlO w b v l := by
 obtain ⟨css, h⟩ := h
 exact ⟨css, h.rebase hb⟩
theorem Tryz.info_slice48 : (Tryz.prog.info? 80).map (fun i => (i.zero, i.size, i.bytes)) = some (some (.agg #[.string ⟨#[]⟩, .string ⟨#[]⟩, .string ⟨#[]⟩, .string ⟨#[]⟩, .slice Option.none 0 0]), 5, 88) := by kernel_rfl
theorem wpList_append_times {w : World} {ops : Array Oper} {rest : List Oper} {o : Oper} {a : Act} {Q : Exit → Act → World → Prop} (hgd : o.guard = none) (s x : Operand)
  (ho : o.op = .call { callee := .builtin .append, args := #[s, x], argTypes := #[65, 65] })
  (base base2 : Nat) (v u : Value) (l l2 : List Nat) (hs : a.eval s = v) (hown : w.ownsRow base 51 2 v l.length (flatT l)) (hx : a.eval x = u) (hu : TmO w base2 u l2)
  (hl : l.length + l2.length ≤ 10000000) (hbase : base ≤ w.heap.size)
  (h : ∀ v' w', w'.ownsRow base 51 2 v' (l ++ l2).length (flatT (l ++ l2)) → Below base w w' → wpList Tryz.prog ops Q rest (a.put o.dst v') w') : wpList Tryz.prog ops Q (o :: rest) a w := by
 obtain ⟨i0, hi0, hz0, hz1, hz2⟩ := info_parts Tryz.info_rat48
 have hown2 := hu.own
 rcases hown2.2 with ⟨rfl, h0⟩ | ⟨g, cap, cur, rfl, _⟩
 ·obtain rfl : l2 = [] := List.eq_nil_of_length_eq_zero h0
  refine wpList_append_own_none hgd s x _ ho base 51 i0 2 Tryz.underlying65 hi0 v _ _ hs hown hx ?_
  exact h _ _ (by rw [List.append_nil]; exact hown) (Below.refl _ _)
 ·obtain ⟨A, c, e, _, _, ht⟩ := hu.shape
  have eA : A = some ⟨g, 0, Option.none⟩ := (Value.slice.inj e).1.symm
  subst eA
  refine wpList_append_own w hgd s x _ ho base 51 i0 (.agg #[.string ⟨#[]⟩, .string ⟨#[]⟩]) 2 32 Tryz.underlying65 hi0 hz0 hz1 hz2 rfl (by decide) v _ _ hs hown ⟨g, 0, Option.none⟩ l2.length cap (flatT l2) hx (flatT_len l2) ht.cells (flatT_one l2) (by unfold maxLen; omega) (by omega) hbase ?_
  intro v' w' ho' hg _
  exact h v' w' (by rw [List.length_append, flatT_app]; exact ho') ((Below.refl _ _).grown hg hbase fun k hk => (hown.lt k hk).1)
theorem ddN_pos {l : List Nat} (h : 0 < l.length) : 0 < (ddN l).length := by
 unfold ddN
 rw [List.length_map]
 refine List.length_pos_of_mem (a := 0) ?_
 unfold kpN
 rw [List.mem_filter]
 exact ⟨List.mem_range.2 h, kn_zero l⟩
theorem snd_cmp (all : List (List Nat)) (a : Nat) : snd (fun x => decide (cmpN x a ≤ 0)) (fun b => decide (cmpN a b < 0)) all = sndN all a := by
 unfold sndN
 have h1 : (fun x => decide (cmpN x a ≤ 0)) = fun x => decide (x ≤ a) := funext fun x => by
  unfold cmpN
  split
  ·rw [decide_eq_true (by decide), decide_eq_true (by omega)]
  ·split
   ·rw [decide_eq_true (by decide), decide_eq_true (by omega)]
   ·rw [decide_eq_false (by decide), decide_eq_false (by omega)]
 have h2 : (fun b => decide (cmpN a b < 0)) = fun b => decide (a < b) := funext fun b => by
  unfold cmpN
  split
  ·rw [decide_eq_true (by decide), decide_eq_true (by omega)]
  ·split
   ·rw [decide_eq_false (by decide), decide_eq_false (by omega)]
   ·rw [decide_eq_false (by decide), decide_eq_false (by omega)]
 rw [h1, h2]
set_option maxRecDepth 100000 in
set_option maxHeartbeats 8000000 in
theorem scSlices_ok (pv vv : Value) (s : Sc) (dss : List (List Nat)) (w : World) (hS : Std w) (h : ScV w w.heap.size pv vv s) (hm : ScSm s) (he : scErr s = 0) (hd : ShortV s.voices dss) :
  Calls Tryz.prog 24 #[.agg #[pv, vv]] w fun e w' => (∃ v, e = .returned (.tuple #[v, .int .i64 0]) ∧ SlO w' w.heap.size v (slcN dss)) ∧ Below w.heap.size w w' := by
 obtain ⟨i0, hi0, hz0, hz1, hz2⟩ := info_parts Tryz.info_slice48
 have hba : Below w.heap.size w (w.alloc (.cells #[pv, vv] 29)) := (Below.refl _ _).alloc (Nat.le_refl _) _
 have HC := Lib.hid (scCheck_any pv vv s _ (hS.below hba (Nat.le_refl _)) (h.lift hba) hm)
 rw [he] at HC
 have HC1 := Lib.hid (Cells.new w 29 #[pv, vv])
 have HBA := Lib.hid hba
 have HS := Lib.hid hS
 have HSC := Lib.hid h
 have HD : Box (ShortV s.voices dss) := ⟨hd⟩
 have hvl := hd.vcs
 have hdl : dss.length ≤ 1000 := by rw [← hd.tv.len]; exact hvl
 have HLL : Box (∀ l ∈ dss.map strt, 0 < l.length ∧ l.length ≤ 1001) := ⟨fun l hl => by
  obtain ⟨ds, hds, rfl⟩ := List.mem_map.1 hl
  rw [strt_len]
  obtain ⟨k, hk, rfl⟩ := List.getElem_of_mem hds
  have hk2 : k < s.voices.length := by rw [hd.tv.len]; exact hk
  obtain ⟨ds2, e2, ht⟩ := hd.tv.at_ hk2
  rw [List.getElem?_eq_getElem hk] at e2
  injection e2 with e2
  have h1 := hd.evs _ (List.getElem_mem hk2)
  have h2 := ht.len
  rw [← e2] at h2
  omega⟩
 have HBD : Box (∀ l ∈ dss.map strt, ∀ a ∈ l, a ≤ 1000000) := ⟨fun l hl a ha => by
  obtain ⟨ds, hds, rfl⟩ := List.mem_map.1 hl
  exact Nat.le_trans (strt_le ha) (hd.sum ds hds)⟩
 have HPL : Box (∀ a ∈ 0 :: (dss.map strt).flatten, a ≤ 1000000) := ⟨fun a ha => pts_le hd.sum ha⟩
 have HFL : Box (((dss.map strt).flatten).length ≤ 1001000) := ⟨by
  have h1 := flatTo_len (dss.map strt) (dss.map strt).length
  rw [List.take_length] at h1
  rw [h1]
  have h2 := lenTo_le (M := 1001) (fun l hl => (HLL.out l hl).2) (dss.map strt).length (Nat.le_refl _)
  rw [List.length_map] at h2
  rw [List.length_map]
  omega⟩
 have HPT : Box (ddN (isort (0 :: (dss.map strt).flatten)) = ptsN dss) := ⟨rfl⟩
 have HSLC : Box (slcTo (dss.map strt) (ptsN dss) ((ptsN dss).length - 1) = slcN dss) := ⟨rfl⟩
 have hal : (dss.map strt).length = dss.length := List.length_map _
 have HTIM := Lib.hid (fun W hb => scTimes_any pv vv s dss W (hS.below hb (Nat.le_refl _)) (h.lift hb) hd)
 obtain ⟨hp, A, c, rfl, _, hcm, hv⟩ := h
 obtain ⟨AP, cp, rfl, _⟩ := hp.shape
 have HZ := Lib.hid (fun W => zero_any W)
 clear hS hp hm he hba hv hd
 generalize slcN dss = out at *
 generalize ptsN dss = pts at *
 generalize dss.map strt = all at *
 go_enter Tryz.func24, Tryz.ntmps24
 go_wp2_with fail
 refine HC.out.mono ?_
 rintro e w1 ⟨rfl, hb1⟩
 have HB1 := Lib.hid (HBA.out.trans (hb1.mono HBA.out.size))
 have hc1 := HC1.out.below hb1 HC1.out.lt
 obtain ⟨z0, z1⟩ := cel2 hc1
 clear hb1 hc1 HC HC1 HBA
 go_wp2_with fail
 refine (HTIM.out _ HB1.out).mono ?_
 rintro e w2 ⟨⟨v2, rfl, ht2⟩, hb2⟩
 have HB2 := Lib.hid (HB1.out.trans (hb2.mono HB1.out.size))
 obtain ⟨A2, c2, rfl, h2l, h2m, h2t⟩ := ht2.shape
 have HT2 := Lib.hid h2t
 rw [hal]
 have hw2 := HB2.out.size
 clear hb2 ht2 h2t HTIM HB1 z0 z1
 go_wp2_with fail
 refine (HZ.out _).mono ?_
 rintro e w3 ⟨rfl, hb3⟩
 have hw3 := hb3.size
 have hba : Below w2.heap.size w2 (w3.alloc (.cells #[.string ⟨#[48]⟩, .string ⟨#[49]⟩] 51)) := hb3.alloc hw3 _
 have HOW : Hid ((w3.alloc (.cells #[.string ⟨#[48]⟩, .string ⟨#[49]⟩] 51)).ownsRow w2.heap.size 51 2 (.slice (some ⟨w3.heap.size, 0, Option.none⟩) 1 1) [0].length (flatT [0])) := Lib.hid (by
  have h := World.ownsRow_lit w3 (e := 51) (size := 2) #[.string ⟨#[48]⟩, .string ⟨#[49]⟩] 1 hw3 (by decide) rfl
  have e0 : t12n 0 = [48] := congrArg Prod.fst t12_zero
  have e1 : t12d 0 = [49] := congrArg Prod.snd t12_zero
  have e : flatT [0] = [.string ⟨#[48]⟩, .string ⟨#[49]⟩] := by
   show ([.string ⟨(t12n 0).toArray⟩, .string ⟨(t12d 0).toArray⟩] ++ [] : List Value) = _
   rw [e0, e1]
   rfl
  rw [e]
  exact h)
 have HCC := Lib.hid (concatT_any A2 c2 all _ (HT2.out.lift hba) (by omega) HLL.out)
 rw [hal] at HCC
 have HBA3 := Lib.hid hba
 clear hb3 hba HZ
 go_wp2_with fail
 refine HCC.out.mono ?_
 rintro e w4 ⟨⟨v4, rfl, ht4⟩, hb4⟩
 have HB4 := Lib.hid (HBA3.out.trans (hb4.mono HBA3.out.size))
 have HOW4 := Lib.hid (own_below HOW.out hb4)
 have HT4 := Lib.hid ht4
 have hw4 := HB4.out.size
 clear ht4 hb4 HOW HCC HBA3
 go_wp2_with (at_builtin; go_loud (refine wpList_append_times rfl _ _ rfl w2.heap.size _ _ _ [0] all.flatten rfl HOW4.out rfl HT4.out (by have := HFL.out; show 1 + _ ≤ _; omega) hw4 ?_; intro v5 w5 hown5 hb5))
 obtain ⟨g, cap, rfl, hgb, hgl⟩ := hown5.form (by simp)
 have HB5 := Lib.hid (HB4.out.trans hb5)
 have HPLN : Box ([0] ++ all.flatten = 0 :: all.flatten) := ⟨rfl⟩
 have HLN : Box (([0] ++ all.flatten).length ≤ 10000000) := ⟨by have := HFL.out; rw [List.length_append]; show 1 + _ ≤ _; omega⟩
 rw [HPLN.out] at hown5 HLN
 have HST := Lib.hid (sortT_any g cap (0 :: all.flatten) w2 w5 HB5.out hown5 HPL.out HLN.out)
 have HW5 := Lib.hid (HB2.out.trans (HB5.out.mono hw2))
 clear hown5 hb5 HOW4 HT4 HB4
 rw [HPLN.out]
 generalize hpl : (0 :: all.flatten) = pl at *
 go_wp2_with fail
 refine HST.out.mono ?_
 rintro e w6 ⟨rfl, ⟨l', hperm, hsrt, hown6⟩, hb6⟩
 have hls := isort_uniq hperm hsrt
 have hll := hperm.length_eq
 rw [← hll] at hown6
 have HCM := Lib.hid (compactT_any g cap l' w2 w6 hb6 hown6 (by rw [hll]; exact HLN.out))
 rw [hls, HPT.out, ← hls, hll] at HCM
 have HPM : Box (∀ a ∈ pts, a ≤ 1000000) := ⟨fun a ha => HPL.out a (hperm.mem_iff.1 (by rw [hls]; rw [← HPT.out] at ha; exact ddN_mem ha))⟩
 have HPP : Box (0 < pts.length) := ⟨by rw [← HPT.out]; refine ddN_pos ?_; rw [(isort_perm pl).length_eq, ← hpl]; exact Nat.succ_pos _⟩
 have HPN : Box (pts.length ≤ 10000000) := ⟨by rw [← HPT.out]; refine Nat.le_trans (ddN_len _) ?_; rw [(isort_perm pl).length_eq]; exact HLN.out⟩
 clear hperm hsrt hown6 hls hll HST hb6 hpl
 go_wp2_with fail
 refine HCM.out.mono ?_
 rintro e w7 ⟨⟨v7, rfl, ht7⟩, hb7⟩
 obtain ⟨A7, c7, rfl, _, _, h7t⟩ := ht7.shape
 have HT7 := Lib.hid h7t
 have HBX := Lib.hid (HB2.out.trans (hb7.mono hw2))
 have HT27 := Lib.hid (HT2.out.lift hb7)
 have hw7 := HBX.out.size
 have hpn := HPN.out
 have hw1 : IntKind.i64.wrap ((pts.length : Int) - 1) = ((pts.length - 1 : Nat) : Int) := by rw [show (pts.length : Int) - 1 = ((pts.length - 1 : Nat) : Int) by have := HPP.out; omega]; exact IntWalk.i64_in _ (by omega)
 clear h7t hb7 ht7 HCM HT2 HW5
 go_wp2_with fail
 go_loopw [7, 28] (fun o i wr => ∃ k : Nat, k ≤ pts.length - 1 ∧ i = .int .i64 k ∧ SlO wr w7.heap.size o (slcTo all pts k) ∧ Below w7.heap.size w7 wr) (fun _ i _ => (pts.length - 1) - (intOf i).toNat)
 case atStart => exact ⟨0, Nat.zero_le _, rfl, ⟨[], LO.nil _ _⟩, Below.refl _ _⟩
 case round =>
  obtain ⟨k, hk, rfl, ht, hbw⟩ := hrel
  by_cases hlt : k < pts.length - 1
  ·obtain ⟨a, ha⟩ : ∃ a, pts[k]? = some a := ⟨_, List.getElem?_eq_getElem (by omega)⟩
   obtain ⟨b, hb⟩ : ∃ b, pts[k + 1]? = some b := ⟨_, List.getElem?_eq_getElem (by omega)⟩
   have HNX : Box (slcTo all pts (k + 1) = slcTo all pts k ++ [(a, b, sndN all a)]) := ⟨slcTo_next ha hb⟩
   have HSL : Box ((slcTo all pts k).length = k) := ⟨slcTo_len all pts k⟩
   have hla := HPM.out a (List.mem_of_getElem? ha)
   have HTX := HT7.out.lift hbw
   obtain ⟨b9, o9, e9, hb9, x0, x1⟩ := TmT.at_ HTX ha
   obtain ⟨b8, o8, e8, _, y0, y1⟩ := TmT.at_ HTX hb
   subst e9
   injection e8 with e8
   injection e8 with e8 e7 _
   subst e8 e7
   have HBW := Lib.hid (HBX.out.trans (hbw.mono hw7))
   have HSN := Lib.hid (fun W (hb : Below wr.heap.size wr W) => sounding_any A2 c2 all (t12n a) (t12d a) (fun x => cmpN x a) (fun b => cmpN a b) W (HS.out.below (HBW.out.trans (hb.mono HBW.out.size)) (Nat.le_refl _)) ((HT27.out.lift hbw).lift hb) (by omega) HLL.out HBD.out (fun x => by unfold cmpN; split; exact .inl rfl; split; exact .inr (.inl rfl); exact .inr (.inr rfl)) (Lib.hid fun x W hx _ => tCmp_any x a W hx hla) (Lib.hid fun x W hx _ => tCmp_any a x W hla hx))
   rw [snd_cmp, hal] at HSN
   obtain ⟨css, hlo⟩ := ht
   obtain ⟨st, hst⟩ : ∃ st, slcTo all pts k = st := ⟨_, rfl⟩
   have HST : Box (slcTo all pts k = st) := ⟨hst⟩
   rw [hst] at hlo HSL
   have hown := hlo.own
   rw [HSL.out] at hown
   have HLO := Lib.hid hlo
   have HO := Lib.hid hown
   have HBW7 := Lib.hid hbw
   have hwr7 := hbw.size
   have hwA0 := HBW.out.size
   have hw2 : IntKind.i64.wrap ((k : Int) + 1) = (k : Int) + 1 := IntWalk.i64_in _ (by omega)
   have hi1 : (0 : Int) ≤ (k : Int) := by omega
   have hi2 : (k : Int) < (pts.length : Int) := by omega
   have hi3 : (0 : Int) ≤ (k : Int) + 1 := by omega
   have hi4 : (k : Int) + 1 < (pts.length : Int) := by omega
   clear ha hb HTX hlo hown hbw hst hb9
   generalize sndN all a = sn at *
   have hB : Below wr.heap.size wr wr.drew := below_to_drew (Below.refl _ _)
   go_wp2_with fail
   go_region_law (first
     | (refine step_append_lies _ (by rfl) _ _ _ (by rfl) w7.heap.size 80 i0 _ 5 88 Tryz.underlying73 hi0 hz0 hz1 hz2 rfl (by omega) _ k css.flatten (by rfl) (HOA.alloc _) ⟨wA.heap.size, 0, Option.none⟩ 1 1 [.string ⟨(t12n a).toArray⟩, .string ⟨(t12d a).toArray⟩, .string ⟨(t12n b).toArray⟩, .string ⟨(t12d b).toArray⟩, .slice AS sn.length cS] (by rfl) (by rfl) (World.news_of_block (cs := #[.string ⟨(t12n a).toArray⟩, .string ⟨(t12d a).toArray⟩, .string ⟨(t12n b).toArray⟩, .string ⟨(t12d b).toArray⟩, .slice AS sn.length cS]) (t := 80) (fr := (0, 0)) (heap_alloc_new wA _)) (by simp [Value.oneCell']) (by omega) (by unfold maxLen; omega) (by omega) (by simp; omega) (wA.heap.size + 1) (by simp) ?_; intro gB cB wB hownB hgB hatB hltB)
     | (go_simp; go_at_call 66; (with_reducible refine (HSN.out _ hB).mono ?_); rintro e wA ⟨⟨vA, rfl, hsn⟩, hbk⟩; obtain ⟨AS, cS, rfl, hS1, hS2, hS3⟩ := hsn.shape; replace hB := hB.trans (hbk.mono hB.size); clear hbk hsn; have HOA := own_below HO.out hB; have hwA := hB.size; have u0 := keep_cell x0 hB; have u1 := keep_cell x1 hB; have u2 := keep_cell y0 hB; have u3 := keep_cell y1 hB))
   all_goals
    have hal2 : Below wA.heap.size wA (wA.alloc (.cells #[.string ⟨(t12n a).toArray⟩, .string ⟨(t12d a).toArray⟩, .string ⟨(t12n b).toArray⟩, .string ⟨(t12d b).toArray⟩, .slice AS sn.length cS] 80)) := (Below.refl _ _).alloc (Nat.le_refl _) _
    have HQ : Hid (SlQ wA wA.heap.size (a, b, sn) [.string ⟨(t12n a).toArray⟩, .string ⟨(t12d a).toArray⟩, .string ⟨(t12n b).toArray⟩, .string ⟨(t12d b).toArray⟩, .slice AS sn.length cS]) := Lib.hid ⟨AS, cS, rfl, hS1, hS2, hS3⟩
    have hk9 : KpT [80] wA.heap.size wA wB := ((KpT.of_below hal2).grown (HOA.alloc _) (by simp) hgB)
    have HTN : Hid (SlO wB w7.heap.size (.slice (some ⟨gB, 0, Option.none⟩) (k + 1) cB) (st ++ [(a, b, sn)])) := Lib.hid ⟨css ++ [[.string ⟨(t12n a).toArray⟩, .string ⟨(t12d a).toArray⟩, .string ⟨(t12n b).toArray⟩, .string ⟨(t12d b).toArray⟩, .slice AS sn.length cS]], (HLO.out.below hB (Q' := SlQ wA wA.heap.size) (fun _ _ _ h => h.keep (E := []) (KpT.of_below hB) (by simp) hB.size)).push (fun _ _ _ h => h.keep hk9 (by decide) hk9.size) (HQ.out.keep hk9 (by decide) hk9.size) rfl (by rw [HSL.out]; exact hownB)⟩
    have HBZ := Lib.hid ((HBW7.out.trans (hB.mono hwr7)).alloc (by omega) (.cells #[.string ⟨(t12n a).toArray⟩, .string ⟨(t12d a).toArray⟩, .string ⟨(t12n b).toArray⟩, .string ⟨(t12d b).toArray⟩, .slice AS sn.length cS] 80) |>.grown hgB (by simp; omega) (fun j hj => (HOA.lt j hj).1))
    clear hownB hgB hatB hltB HOA hB hwA hal2 hk9 hS1 hS2 hS3 u0 u1 u2 u3 x0 x1 y0 y1
    go_wp2_with fail
    go_roundw
    case rel => exact ⟨k + 1, by omega, by go_num, by rw [HNX.out, HST.out]; exact HTN.out, HBZ.out⟩
    case measure => simp [intOf]; omega
  ·obtain rfl : k = pts.length - 1 := by omega
   rw [HSLC.out] at ht
   obtain ⟨A9, c9, rfl, _⟩ := ht.shape
   go_wp2_with fail
   go_ret2
   exact ⟨⟨_, rfl, ht.rebase hw7⟩, HBX.out.trans (hbw.mono hw7)⟩
theorem sr2_below {w W : World} {s g : Nat} {a b : Value} (hg : s ≤ g) (h : Below s w W) : Below s w ((W.setCell ⟨g, 0, Option.none⟩ a).setCell ⟨g, 1, Option.none⟩ b) := (h.setCell (p := ⟨g, 0, Option.none⟩) hg a).setCell (p := ⟨g, 1, Option.none⟩) hg b
theorem two_cells (w : World) (T : TypeId) (xs ys : Array Value) : Cells ((w.alloc (.cells xs T)).alloc (.cells ys T)).drew w.heap.size T xs.toList ∧ Cells ((w.alloc (.cells xs T)).alloc (.cells ys T)).drew (w.heap.size + 1) T ys.toList ∧ Below w.heap.size w ((w.alloc (.cells xs T)).alloc (.cells ys T)).drew := by
 have h := Cells.new (w.alloc (.cells xs T)) T ys
 rw [World.size_alloc] at h
 exact ⟨((Cells.new w T xs).alloc _).drew, h.drew, below_to_drew (((Below.refl _ _).alloc (Nat.le_refl _) _).alloc (by simp) _)⟩
end Go.Proofs.YtaaeekahhhookaaGreatDoor
