/- schismalaw29.insert. insert into lists in order; the intervals of TargetReduces. -/
import Derived.Test.YtcfkclafpbaagaaGreatDoorGTM
import Derived.Test.YtcfkclafpbaagaaGreatDoorGTG
import Derived.Test.YtcfkclafpbaagaaGreatDoorGE
import Derived.Test.YtcfkclafpbaagaaGreatDoorGTH
import Derived.Test.YtcfkclafpbaagaaGreatDoorGTJ
import Derived.Deep.AppendLies
import Derived.Deep.RegionLawGrows
import Derived.Test.YtcfkclafpbaagaaGreatDoorArgFoursG
namespace Go.Proofs.YtcfkclafpbaagaaGreatDoor
open Go.RowKit Go.Lib Go.Shelf

/-- A list of rows, somewhere; the empty one is nil. -/
def LstV (w : World) (v : Value) (l : List (List Int)) : Prop := ∃ A c, v = .slice A l.length c ∧ l.length ≤ c ∧ c ≤ maxLen ∧ (l = [] → A = Option.none ∧ c = 0) ∧ RowsAt w w.heap.size A l
theorem LstV.lift {w w' : World} {v : Value} {l : List (List Int)} (h : LstV w v l) (hb : Below w.heap.size w w') : LstV w' v l := by
  obtain ⟨A, c, h1, h2, h3, h4, h5⟩ := h
  exact ⟨A, c, h1, h2, h3, h4, h5.lift hb⟩
theorem LstV.nil (w : World) : LstV w (.slice Option.none 0 0) [] := ⟨Option.none, 0, rfl, Nat.le_refl _, Nat.zero_le _, fun _ => ⟨rfl, rfl⟩, ⟨fun k x h => by simp at h⟩⟩

/-- The values of the rows. -/
theorem rows_vals {w : World} {B : Nat} {ad : Addr} : ∀ {l : List (List Int)}, RowsAt w B (some ad) l → ∃ vs : List Value, vs.length = l.length ∧ ∀ (j : Nat) (x : List Int), l[j]? = some x → ∃ v, vs[j]? = some v ∧ w.cell? (ad.add j) = some v ∧ IsRow w B v x := by
  intro l h
  have build : ∀ k, k ≤ l.length → ∃ vs : List Value, vs.length = k ∧ ∀ (j : Nat) (x : List Int), j < k → l[j]? = some x → ∃ v, vs[j]? = some v ∧ w.cell? (ad.add j) = some v ∧ IsRow w B v x := by
    intro k
    induction k with
    | zero => exact fun _ => ⟨[], rfl, fun j x h => by omega⟩
    | succ k ih =>
      intro hk
      obtain ⟨vs, h1, h2⟩ := ih (by omega)
      obtain ⟨ad', v, e, _, h4, h5⟩ := h.get k l[k] (List.getElem?_eq_getElem (by omega))
      cases e
      refine ⟨vs ++ [v], by simp [h1], fun j x hj hx => ?_⟩
      by_cases hjk : j < k
      · obtain ⟨u, k1, k2, k3⟩ := h2 j x hjk hx
        exact ⟨u, by rw [List.getElem?_append_left (by omega)]; exact k1, k2, k3⟩
      · obtain rfl : j = k := by omega
        rw [List.getElem?_eq_getElem (by omega)] at hx
        cases hx
        exact ⟨v, by rw [List.getElem?_append_right (by omega), h1, Nat.sub_self]; rfl, h4, h5⟩
  obtain ⟨vs, h1, h2⟩ := build l.length (Nat.le_refl _)
  exact ⟨vs, h1, fun j x hx => h2 j x (List.getElem?_eq_some_iff.1 hx).1 hx⟩

theorem ins_get {α : Type} (l : List α) (k i : Nat) (x : α) (hk : k ≤ l.length) : (l.take k ++ x :: l.drop k)[i]? = if i < k then l[i]? else if i = k then some x else l[i - 1]? := by
  have hlt : (l.take k).length = k := by rw [List.length_take]; omega
  by_cases h1 : i < k
  · rw [if_pos h1, List.getElem?_append_left (by omega), List.getElem?_take, if_pos h1]
  · rw [if_neg h1, List.getElem?_append_right (by omega), hlt]
    by_cases h2 : i = k
    · subst h2; rw [if_pos rfl, Nat.sub_self]; rfl
    · rw [if_neg h2]
      obtain ⟨d, rfl⟩ : ∃ d, i = k + (d + 1) := ⟨i - k - 1, by omega⟩
      rw [show k + (d + 1) - k = d + 1 by omega, List.getElem?_cons_succ, List.getElem?_drop]
      congr 1
theorem lst_ins {w w2 : World} {base n k : Nat} {v xv : Value} {l : List (List Int)} {x : List Int} {vs : List Value} (ho : w2.ownsRow base 28 1 v n (vs.take k ++ ([xv] ++ vs.drop k))) (hvl : vs.length = l.length) (hk : k ≤ l.length)
    (hv : ∀ (i : Nat) (y : List Int), l[i]? = some y → ∃ u, vs[i]? = some u ∧ IsRow w w.heap.size u y) (hx : IsRow w w.heap.size xv x) (hb : Below w.heap.size w w2) (h0 : n = l.length + 1) : LstV w2 v (l.take k ++ x :: l.drop k) := by
  have hll : (l.take k ++ x :: l.drop k).length = l.length + 1 := by
    rw [List.length_append, List.length_cons, List.length_take, List.length_drop]; omega
  obtain ⟨A', c', e, h3, h4, hr⟩ := Row.of_own ho
  refine ⟨A', c', by rw [e, hll, h0], by omega, h4, fun e => by rw [e] at hll; simp at hll, ⟨fun i y hy => ?_⟩⟩
  have hu : ∃ u, (vs.take k ++ ([xv] ++ vs.drop k))[i]? = some u ∧ IsRow w w.heap.size u y := by
    have e1 := ins_get vs k i xv (by omega)
    rw [ins_get l k i x hk] at hy
    rw [show vs.take k ++ ([xv] ++ vs.drop k) = vs.take k ++ xv :: vs.drop k from rfl, e1]
    by_cases h1 : i < k
    · rw [if_pos h1] at hy ⊢; exact hv i y hy
    · rw [if_neg h1] at hy ⊢
      by_cases h2 : i = k
      · rw [if_pos h2] at hy ⊢; cases hy; exact ⟨xv, rfl, hx⟩
      · rw [if_neg h2] at hy ⊢; exact hv (i - 1) y hy
  obtain ⟨u, hu1, hu2⟩ := hu
  obtain ⟨ad, e1, h7, h8⟩ := hr.get i u hu1
  exact ⟨ad, u, e1, h7, h8, hu2.lift hb⟩
theorem own_cellsL {w : World} {base g n c : Nat} {xs : List Value} (h : w.ownsRow base 28 1 (.slice (some ⟨g, 0, Option.none⟩) n c) n xs) (i : Nat) (u : Value) (hu : xs[i]? = some u) : w.cell? ((⟨g, 0, Option.none⟩ : Addr).add i) = some u := by
  obtain ⟨A', c', e, _, _, hr⟩ := Row.of_own h
  cases e
  obtain ⟨ad, e1, _, h8⟩ := hr.get i u hu
  cases e1
  exact h8
theorem own_form {w : World} {base n : Nat} {v : Value} {xs : List Value} (h : w.ownsRow base 28 1 v n xs) (hn : 0 < n) : ∃ g c, v = .slice (some ⟨g, 0, Option.none⟩) n c := by
  rcases h.2 with ⟨_, h0⟩ | ⟨g, cap, cur, rfl, _⟩
  · omega
  · exact ⟨g, cap, rfl⟩
theorem cell_alloc1 (w : World) (u : Value) (t : TypeId) (i : Nat) (v : Value) (h : [u][i]? = some v) : (w.alloc (.cells #[u] t)).cell? ((⟨w.heap.size, 0, Option.none⟩ : Addr).add i) = some v := by
  obtain rfl : i = 0 := by
    have := (List.getElem?_eq_some_iff.1 h).1
    simp at this
    omega
  cases h
  rw [show (⟨w.heap.size, 0, Option.none⟩ : Addr).add 0 = ⟨w.heap.size, 0, Option.none⟩ by unfold Addr.add; simp]
  exact World.cell?_alloc_new w _ _ 0

/-- What insert returns: the list itself, or a new one. -/
def InsPost (p : List Int) (l : List (List Int)) (x : List Int) (lv xv : Value) (w : World) (v : Value) (w' : World) : Prop :=
  (v = lv ∧ l = insR p l x) ∨ ∃ (k : Nat) (vs : List Value), k ≤ l.length ∧ vs.length = l.length ∧ (∀ (i : Nat) (u : Value), vs[i]? = some u → ∃ ad n c, lv = .slice (some ad) n c ∧ w.cell? (ad.add i) = some u) ∧ w'.ownsRow w.heap.size 28 1 v (l.length + 1) (vs.take k ++ ([xv] ++ vs.drop k)) ∧ l.take k ++ x :: l.drop k = insR p l x
theorem InsPost.new {p : List Int} {l : List (List Int)} {x : List Int} {lv xv : Value} {w : World} {v : Value} {w' : World} {k n base : Nat} {vs : List Value} (ho : w'.ownsRow base 28 1 v n (vs.take k ++ ([xv] ++ vs.drop k))) (hvl : vs.length = l.length) (hk : k ≤ l.length)
    (hc : ∀ (i : Nat) (u : Value), vs[i]? = some u → ∃ ad n c, lv = .slice (some ad) n c ∧ w.cell? (ad.add i) = some u) (hb : w.heap.size ≤ base) (h0 : n = l.length + 1) (hi : l.take k ++ x :: l.drop k = insR p l x) : InsPost p l x lv xv w v w' := by
  subst h0
  exact .inr ⟨k, vs, hk, hvl, hc, own_base ho hb, hi⟩

set_option maxRecDepth 100000 in
set_option maxHeartbeats 4000000 in
theorem insert_post29 (pv lv xv : Value) (p : List Int) (l : List (List Int)) (x : List Int) (w : World) (hS : Std w) (hp : IsRow w w.heap.size pv p) (hpe : primeErr p = 0) (hl : LstV w lv l) (hx : IsRow w w.heap.size xv x)
    (hcl : ∀ y ∈ l, chkAll p [y] = 0) (hcx : chkAll p [x] = 0) (hs : SLt p l) (hn : l.length ≤ 1000) :
    Calls Tryz.prog 16 #[pv, lv, xv] w fun e w' => (∃ v, e = .returned v ∧ InsPost p l x lv xv w v w') ∧ Below w.heap.size w w' := by
  obtain ⟨i0, hi0, hz0, hz1, hz2⟩ := info_parts Tryz.info_row
  have hP := primed hpe
  obtain ⟨A, c, rfl, hlc, hcm, hnil, hr⟩ := hl
  obtain ⟨AP, cp, rfl⟩ := hp.shape
  obtain ⟨AX, cx, rfl⟩ := hx.shape
  have HS := Lib.hid hS
  have HPV := Lib.hid hp
  have HX := Lib.hid hx
  have HP : Box (Primed p) := ⟨hP⟩
  have HPE : Box (primeErr p = 0) := ⟨hpe⟩
  have HCL : Box (∀ y ∈ l, chkAll p [y] = 0) := ⟨hcl⟩
  have HLL : Box (∀ y ∈ l, y.length = p.length) := ⟨fun y hy => (right_of (hcl y hy)).len⟩
  have HCX : Box (chkAll p [x] = 0) := ⟨hcx⟩
  have HXL : Box (x.length = p.length) := ⟨(right_of hcx).len⟩
  have HSL : Box (SLt p l) := ⟨hs⟩
  have HR := Lib.hid hr
  have HNIL : Box (l = [] → A = Option.none ∧ c = 0) := ⟨hnil⟩
  unfold maxLen at hcm
  clear hS hp hx hP hpe hcl hcx hs hr hnil
  go_enter Tryz.func16, Tryz.ntmps16
  go_wp2_with fail
  go_loopw [7] (fun i wr => ∃ k : Nat, k ≤ l.length ∧ i = .int .i64 k ∧ Box (∀ y ∈ l.drop k, ltR p x y = true) ∧ Below w.heap.size w wr) (fun i _ => (intOf i).toNat)
  case atStart => exact ⟨l.length, Nat.le_refl _, rfl, ⟨by rw [List.drop_of_length_le (Nat.le_refl _)]; simp⟩, Below.refl _ _⟩
  case round =>
    obtain ⟨k, hk, rfl, HD, hbw⟩ := hrel
    have hn2 : l.length ≤ 1000 := hn
    by_cases h0 : k = 0
    · subst h0
      have hba : Below w.heap.size w (wr.alloc (.cells #[.slice AX x.length cx] 28)).drew := ((hbw.alloc hbw.size _)).drew
      have HINS := Lib.hid (ins_at (k := 0) HP.out HLL.out HXL.out HSL.out (fun y hy => by simp at hy) HD.out)
      by_cases hne : l = []
      · obtain ⟨rfl, rfl⟩ := HNIL.out hne
        subst hne
        clear HD hbw
        go_wp2_with fail
        go_region_law (first
          | (refine step_append_grows (by rfl) _ _ _ (by rfl) 28 i0 _ 1 24 Tryz.underlying27 hi0 hz0 hz1 hz2 rfl (by decide) Option.none 0 0 ([] : List Value) (by rfl) (fun _ => ⟨rfl, rfl⟩) rfl (fun bb e i u hu => by simp at hu) ⟨wr.heap.size, 0, Option.none⟩ 1 1 [.slice AX x.length cx] (by rfl) rfl (fun i u hu => cell_alloc1 wr _ _ i u hu) (fun u hu => by rw [List.mem_singleton.1 hu]; rfl) (by omega) (by unfold maxLen; omega) (by omega) ?_; intro v5 w5 hown5 hg5) | fail)
        have hb5 := hba.grown hg5 hba.size (fun j hj => by cases hj)
        have HLV := Lib.hid (InsPost.new (l := []) (lv := .slice Option.none 0 0) (vs := []) (k := 0) hown5 rfl (Nat.le_refl _) (fun i y h => by simp at h) hba.size rfl HINS.out)
        clear hown5 hg5
        go_wp2_with fail
        go_ret
        exact ⟨⟨_, rfl, HLV.out⟩, hb5⟩
      · have hpos : 0 < l.length := List.length_pos_iff.2 hne
        obtain ⟨ad, u, rfl, hab, hca, hru⟩ := HR.out.get 0 l[0] (List.getElem?_eq_getElem hpos)
        rw [show ad.add 0 = ad by unfold Addr.add; simp] at hca
        obtain ⟨b, o, rfl⟩ := addr_plain hca
        obtain ⟨vs, hvl, hvs⟩ := rows_vals HR.out
        have hone : ∀ u ∈ vs, u.oneCell' = true := fun u hu => by
          obtain ⟨i, hi, rfl⟩ := List.getElem_of_mem hu
          obtain ⟨v, e1, _, hr2⟩ := hvs i l[i] (List.getElem?_eq_getElem (by omega))
          rw [List.getElem?_eq_getElem hi] at e1
          cases e1
          obtain ⟨A', c', e⟩ := hr2.shape
          rw [e]; rfl
        have hcells : ∀ W, Below w.heap.size w W → ∀ (i : Nat) (u : Value), vs[i]? = some u → W.cell? ⟨b, o + i, Option.none⟩ = some u := fun W hW i u hu => by
          have hi := (List.getElem?_eq_some_iff.1 hu).1
          obtain ⟨v, e1, e2, _⟩ := hvs i l[i] (List.getElem?_eq_getElem (by omega))
          rw [e1] at hu
          cases hu
          rw [Lib.add_plain] at e2
          exact (hW.cell (p := ⟨b, o + i, Option.none⟩) hab).trans e2
        have HV : Hid (∀ (i : Nat) (u : Value), vs[i]? = some u → ∃ ad n c', (Value.slice (some ⟨b, o, Option.none⟩) l.length c) = .slice (some ad) n c' ∧ w.cell? (ad.add i) = some u) := Lib.hid (fun i u hu => by
        have hi := (List.getElem?_eq_some_iff.1 hu).1
        obtain ⟨v, e1, e2, _⟩ := hvs i l[i] (List.getElem?_eq_getElem (by omega))
        rw [e1] at hu
        cases hu
        exact ⟨_, _, _, rfl, e2⟩)
        have HCS := Lib.hid hcells
        have HON := Lib.hid hone
        have hq3 : (l.length : Int) ≤ (c : Int) := by omega
        have hpos2 : (0 : Int) < (l.length : Int) := by omega
        have hc0 : ¬ c = 0 := by omega
        have hl0 : ¬ l.length = 0 := by omega
        clear hvs hone hcells hca hru HD hbw
        go_wp2_with fail
        go_region_law (first
          | (refine step_append_grows (by rfl) _ _ _ (by rfl) 28 i0 _ 1 24 Tryz.underlying27 hi0 hz0 hz1 hz2 rfl (by decide) (some ⟨wr.heap.size, 0, Option.none⟩) 1 1 [.slice AX x.length cx] (by rfl) (fun e => by cases e) rfl (fun bb e => by cases e; exact cell_alloc1 wr _ _) ⟨b, o, Option.none⟩ l.length c vs (by rfl) (by omega) (fun i u hu => by rw [Lib.add_plain]; exact HCS.out _ hba _ u hu) HON.out (by omega) (by unfold maxLen; omega) (by omega) ?_; intro v4 w4 hown4 hg4; obtain ⟨g4, c4, rfl⟩ := own_form hown4 (by omega))
          | (refine step_append_grows (by rfl) _ _ _ (by rfl) 28 i0 _ 1 24 Tryz.underlying27 hi0 hz0 hz1 hz2 rfl (by decide) (some ⟨b, o, Option.none⟩) 0 0 (vs.take 0) (by rfl) (fun e => by cases e) (by simp) (fun bb e i u hu => by simp at hu) ⟨g4, 0, Option.none⟩ (1 + l.length) c4 ([.slice AX x.length cx] ++ vs.drop 0) (by rfl) (by rw [List.length_append, List.length_drop]; simp; omega) (own_cellsL hown4) (fun u hu => by rcases List.mem_append.1 hu with h | h; (rw [List.mem_singleton.1 h]; rfl); exact HON.out u (List.mem_of_mem_drop h)) (by omega) (by unfold maxLen; omega) (by omega) ?_; intro v5 w5 hown5 hg5) | fail)
        have hb4 := hba.grown hg4 hba.size (fun j hj => by cases hj)
        have hb5 := hb4.grown hg5 hb4.size (fun j hj => by cases hj)
        have HLV := Lib.hid (InsPost.new (k := 0) hown5 hvl (by omega) HV.out hb4.size (by omega) HINS.out)
        clear hown5 hown4 hg4 hg5 HV HCS HON
        go_wp2_with fail
        go_ret
        exact ⟨⟨_, rfl, HLV.out⟩, hb5⟩
    · obtain ⟨j, rfl⟩ : ∃ j, k = j + 1 := ⟨k - 1, by omega⟩
      have hjl : j < l.length := by omega
      obtain ⟨ad, u, rfl, hab, hca, hru⟩ := HR.out.get j l[j] (List.getElem?_eq_getElem hjl)
      obtain ⟨ad0, u0, e0, hab0, hca0, hru0⟩ := HR.out.get 0 l[0] (List.getElem?_eq_getElem (by omega))
      cases e0
      rw [show ad.add 0 = ad by unfold Addr.add; simp] at hca0
      obtain ⟨b, o, rfl⟩ := addr_plain hca0
      clear hab0 hca0 hru0
      rw [Lib.add_plain] at hca
      have hcj := (hbw.cell (p := ⟨b, o + j, Option.none⟩) hab).trans hca
      obtain ⟨vs, hvl, hvs⟩ := rows_vals HR.out
      have hone : ∀ u ∈ vs, u.oneCell' = true := fun u hu => by
        obtain ⟨i, hi, rfl⟩ := List.getElem_of_mem hu
        obtain ⟨v, e1, _, hr2⟩ := hvs i l[i] (List.getElem?_eq_getElem (by omega))
        rw [List.getElem?_eq_getElem hi] at e1
        cases e1
        obtain ⟨A', c', e⟩ := hr2.shape
        rw [e]; rfl
      have hcells : ∀ W, Below w.heap.size w W → ∀ (i : Nat) (u : Value), vs[i]? = some u → W.cell? ⟨b, o + i, Option.none⟩ = some u := fun W hW i u hu => by
        have hi := (List.getElem?_eq_some_iff.1 hu).1
        obtain ⟨v, e1, e2, _⟩ := hvs i l[i] (List.getElem?_eq_getElem (by omega))
        rw [e1] at hu
        cases hu
        rw [Lib.add_plain] at e2
        exact (hW.cell (p := ⟨b, o + i, Option.none⟩) hab).trans e2
      have HV : Hid (∀ (i : Nat) (u : Value), vs[i]? = some u → ∃ ad n c', (Value.slice (some ⟨b, o, Option.none⟩) l.length c) = .slice (some ad) n c' ∧ w.cell? (ad.add i) = some u) := Lib.hid (fun i u hu => by
        have hi := (List.getElem?_eq_some_iff.1 hu).1
        obtain ⟨v, e1, e2, _⟩ := hvs i l[i] (List.getElem?_eq_getElem (by omega))
        rw [e1] at hu
        cases hu
        exact ⟨_, _, _, rfl, e2⟩)
      have HCS := Lib.hid hcells
      have HON := Lib.hid hone
      have hyl := HLL.out _ (List.getElem_mem hjl)
      have hcy := HCL.out _ (List.getElem_mem hjl)
      have HCM := Lib.hid (compare_mon _ _ _ p l[j] x wr (HPV.out.lift hbw) (hru.lift hbw) (HX.out.lift hbw) (chk_join hcy HCX.out) (HS.out.below hbw (Nat.le_refl _)))
      have HTL := Lib.hid (fun h => take_lt HP.out HLL.out HXL.out HSL.out hjl h)
      have HME := Lib.hid (List.getElem_mem hjl)
      have HDR := Lib.hid (List.drop_eq_getElem_cons hjl)
      have HCI := Lib.hid (cross_inj (x := l[j]) (y := x) HP.out hyl HXL.out)
      have HLTX : Hid (ltR p x l[j] = decide (num p x * den p l[j] < num p l[j] * den p x)) := Lib.hid rfl
      have HLTY : Hid (ltR p l[j] x = decide (num p l[j] * den p x < num p x * den p l[j])) := Lib.hid rfl
      have HBW := Lib.hid hbw
      obtain ⟨AY, cy, rfl⟩ := hru.shape
      clear hyl hcy hru hca hvs hone hcells hbw
      generalize l[j] = y at *
      generalize num p y * den p x = N1 at *
      generalize num p x * den p y = N2 at *
      have hj1 : ((j + 1 : Nat) : Int) - 1 = (j : Int) := by omega
      have hj2 : (0 : Int) ≤ (j : Int) := by omega
      have hj3 : (j : Int) < (l.length : Int) := by omega
      have hj4 : (0 : Int) < ((j + 1 : Nat) : Int) := by omega
      go_wp2_with fail
      refine HCM.out.mono ?_
      rintro e w3 ⟨rfl, hb3⟩
      have HB3 := Lib.hid (HBW.out.trans (hb3.mono HBW.out.size))
      clear hb3 HCM
      unfold cmpN
      rcases Nat.lt_trichotomy N1 N2 with h | h | h
      · rw [if_pos h]
        have hq0 : (0 : Int) ≤ (j : Int) + 1 := by omega
        have hq1 : (j : Int) + 1 ≤ (c : Int) := by omega
        have hq2 : (j : Int) + 1 ≤ (l.length : Int) := by omega
        have hq3 : (l.length : Int) ≤ (c : Int) := by omega
        have HINS := Lib.hid (ins_at HP.out HLL.out HXL.out HSL.out (HTL.out (by rw [HLTY.out, decide_eq_true_eq]; exact h)) HD.out)
        have hba : Below w.heap.size w (w3.alloc (.cells #[.slice AX x.length cx] 28)).drew := ((HB3.out.alloc HB3.out.size _)).drew
        clear HTL HCI HLTX HLTY h hcj
        by_cases hm : j + 1 < l.length
        · have hc1 : ¬ c = j + 1 := by omega
          go_wp2_with fail
          go_region_law (first
            | (refine step_append_grows (by rfl) _ _ _ (by rfl) 28 i0 _ 1 24 Tryz.underlying27 hi0 hz0 hz1 hz2 rfl (by decide) (some ⟨w3.heap.size, 0, Option.none⟩) 1 1 [.slice AX x.length cx] (by rfl) (fun e => by cases e) rfl (fun bb e => by cases e; exact cell_alloc1 w3 _ _) ⟨b, o + (j + 1), Option.none⟩ (l.length - (j + 1)) (c - (j + 1)) (vs.drop (j + 1)) (by rfl) (by rw [List.length_drop]; omega) (fun i u hu => by rw [List.getElem?_drop] at hu; rw [Lib.add_plain, Nat.add_assoc]; exact HCS.out _ hba _ u hu) (fun u hu => HON.out u (List.mem_of_mem_drop hu)) (by omega) (by unfold maxLen; omega) (by omega) ?_; intro v4 w4 hown4 hg4; obtain ⟨g4, c4, rfl⟩ := own_form hown4 (by omega))
            | (refine step_append_grows (by rfl) _ _ _ (by rfl) 28 i0 _ 1 24 Tryz.underlying27 hi0 hz0 hz1 hz2 rfl (by decide) (some ⟨b, o, Option.none⟩) (j + 1) (j + 1) (vs.take (j + 1)) (by rfl) (fun e => by cases e) (by rw [List.length_take]; omega) (fun bb e i u hu => by cases e; rw [Lib.add_plain]; exact HCS.out _ (hba.grown hg4 (by have := hba.size; omega) (fun j hj => by cases hj)) i u (by rw [List.getElem?_take] at hu; split at hu; exact hu; cases hu)) ⟨g4, 0, Option.none⟩ (1 + (l.length - (j + 1))) c4 ([.slice AX x.length cx] ++ vs.drop (j + 1)) (by rfl) (by rw [List.length_append, List.length_drop]; simp; omega) (own_cellsL hown4) (fun u hu => by rcases List.mem_append.1 hu with h | h; (rw [List.mem_singleton.1 h]; rfl); exact HON.out u (List.mem_of_mem_drop h)) (by omega) (by unfold maxLen; omega) (by omega) ?_; intro v5 w5 hown5 hg5) | fail)
          have hb4 := hba.grown hg4 hba.size (fun j hj => by cases hj)
          have hb5 := hb4.grown hg5 hb4.size (fun j hj => by cases hj)
          have HLV := Lib.hid (InsPost.new hown5 hvl (by omega) HV.out (by have := hb4.size; omega) (by omega) HINS.out)
          clear hown5 hown4 hg4 hg5 HV HCS HON
          go_wp2_with fail
          go_ret
          exact ⟨⟨_, rfl, HLV.out⟩, hb5⟩
        · have hle : l.length = j + 1 := by omega
          have hvd : vs.drop (j + 1) = [] := List.drop_of_length_le (by omega)
          by_cases hc1 : c = j + 1
          all_goals
            go_wp2_with fail
            go_region_law (first
              | (refine step_append_grows (by rfl) _ _ _ (by rfl) 28 i0 _ 1 24 Tryz.underlying27 hi0 hz0 hz1 hz2 rfl (by decide) (some ⟨b, o, Option.none⟩) (j + 1) (j + 1) (vs.take (j + 1)) (by rfl) (fun e => by cases e) (by rw [List.length_take]; omega) (fun bb e i u hu => by cases e; rw [Lib.add_plain]; exact HCS.out _ hba i u (by rw [List.getElem?_take] at hu; split at hu; exact hu; cases hu)) ⟨w3.heap.size, 0, Option.none⟩ 1 1 ([.slice AX x.length cx] ++ vs.drop (j + 1)) (by rfl) (by rw [hvd]; rfl) (fun i u hu => cell_alloc1 w3 _ _ i u (by rw [hvd] at hu; exact hu)) (fun u hu => by rw [hvd] at hu; rw [List.mem_singleton.1 hu]; rfl) (by omega) (by unfold maxLen; omega) (by omega) ?_; intro v5 w5 hown5 hg5) | fail)
            have hb5 := hba.grown hg5 hba.size (fun j hj => by cases hj)
            have HLV := Lib.hid (InsPost.new hown5 hvl (by omega) HV.out (by have := hba.size; omega) (by omega) HINS.out)
            clear hown5 hg5 HV HCS HON
            go_wp2_with fail
            go_ret
            exact ⟨⟨_, rfl, HLV.out⟩, hb5⟩
      · rw [if_neg (by omega), if_pos h]
        have hxy := HCI.out h
        subst hxy
        have hms : y ∈ l := HME.out
        have HLV : Hid (InsPost p l y (.slice (some ⟨b, o, Option.none⟩) l.length c) (.slice AX y.length cx) w (.slice (some ⟨b, o, Option.none⟩) l.length c) w3) := Lib.hid (.inl ⟨rfl, ins_same HP.out HLL.out HSL.out hms⟩)
        clear HTL HCI HLTX HLTY h
        go_wp2_with fail
        go_ret
        exact ⟨⟨_, rfl, HLV.out⟩, HB3.out⟩
      · rw [if_neg (by omega), if_neg (by omega)]
        have HDN : Box (∀ z ∈ l.drop j, ltR p x z = true) := ⟨fun z hz => by
          rw [HDR.out] at hz
          rcases List.mem_cons.1 hz with rfl | hz
          · rw [HLTX.out, decide_eq_true_eq]; exact h
          · exact HD.out z hz⟩
        clear HTL HCI HLTX HLTY h
        go_wp2_with fail
        go_roundw
        case rel => exact ⟨j, by omega, by go_num, HDN, HB3.out⟩
        case measure => simp [intOf]

/-- insert into a list that lies somewhere. -/
theorem insert_any29 (pv lv xv : Value) (p : List Int) (l : List (List Int)) (x : List Int) (w : World) (hS : Std w) (hp : IsRow w w.heap.size pv p) (hpe : primeErr p = 0) (hl : LstV w lv l) (hx : IsRow w w.heap.size xv x)
    (hcl : ∀ y ∈ l, chkAll p [y] = 0) (hcx : chkAll p [x] = 0) (hs : SLt p l) (hn : l.length ≤ 1000) :
    Calls Tryz.prog 16 #[pv, lv, xv] w fun e w' => (∃ v, e = .returned v ∧ LstV w' v (insR p l x)) ∧ Below w.heap.size w w' := by
  refine (insert_post29 pv lv xv p l x w hS hp hpe hl hx hcl hcx hs hn).mono ?_
  rintro e w' ⟨⟨v, rfl, h⟩, hb⟩
  refine ⟨⟨v, rfl, ?_⟩, hb⟩
  rcases h with ⟨rfl, h⟩ | ⟨k, vs, hk, hvl, hc, ho, hi⟩
  · rw [← h]; exact hl.lift hb
  · rw [← hi]
    obtain ⟨A, c, rfl, _, _, _, hr⟩ := hl
    refine lst_ins ho hvl hk (fun i y hy => ?_) hx hb rfl
    have hil := (List.getElem?_eq_some_iff.1 hy).1
    have hu : vs[i]? = some (vs[i]'(by omega)) := List.getElem?_eq_getElem _
    obtain ⟨ad, n, c2, e, hcu⟩ := hc i _ hu
    injection e with e1 e2 e3
    subst e1
    obtain ⟨ad', u', e', _, h4, h5⟩ := hr.get i y hy
    cases e'
    rw [h4] at hcu
    cases hcu
    exact ⟨_, hu, h5⟩

theorem lrow_ins {w2 : World} {base k : Nat} {v xv : Value} {l : List (List Int)} {x : List Int} {vs : List Value} (ho : w2.ownsRow base 28 1 v (l.length + 1) (vs.take k ++ ([xv] ++ vs.drop k))) (hvl : vs.length = l.length) (hk : k ≤ l.length)
    (hv : ∀ (i : Nat) (y : List Int), l[i]? = some y → ∃ u, vs[i]? = some u ∧ ORow w2 u y) (hx : ORow w2 xv x) : LRow w2 base v (l.take k ++ x :: l.drop k) := by
  have hll : (l.take k ++ x :: l.drop k).length = l.length + 1 := by
    rw [List.length_append, List.length_cons, List.length_take, List.length_drop]; omega
  refine ⟨_, by rw [hll]; exact ho, fun i y hy => ?_⟩
  have e1 := ins_get vs k i xv (by omega)
  rw [ins_get l k i x hk] at hy
  rw [show vs.take k ++ ([xv] ++ vs.drop k) = vs.take k ++ xv :: vs.drop k from rfl, e1]
  by_cases h1 : i < k
  · rw [if_pos h1] at hy ⊢; exact hv i y hy
  · rw [if_neg h1] at hy ⊢
    by_cases h2 : i = k
    · rw [if_pos h2] at hy ⊢; cases hy; exact ⟨xv, rfl, hx⟩
    · rw [if_neg h2] at hy ⊢; exact hv (i - 1) y hy

/-- insert into a list of its own. -/
theorem insert_own29 (pv lv xv : Value) (p : List Int) (l : List (List Int)) (x : List Int) (base : Nat) (w : World) (hS : Std w) (hp : IsRow w w.heap.size pv p) (hpe : primeErr p = 0) (hl : LRow w base lv l) (hx : ORow w xv x)
    (hcl : ∀ y ∈ l, chkAll p [y] = 0) (hcx : chkAll p [x] = 0) (hs : SLt p l) (hn : l.length ≤ 1000) (h0 : l = [] → lv = .slice Option.none 0 0) (hbs : base ≤ w.heap.size) :
    Calls Tryz.prog 16 #[pv, lv, xv] w fun e w' => (∃ v, e = .returned v ∧ LRow w' base v (insR p l x) ∧ (v = lv ∨ ∃ g, v.ownBlock = some g ∧ w.heap.size ≤ g)) ∧ Below w.heap.size w w' := by
  obtain ⟨A, c, rfl⟩ := hl.shape
  obtain ⟨hn1, hr⟩ := hl.rows
  obtain ⟨ws, hw1, hw2⟩ := hl
  have hLV : LstV w (.slice A l.length c) l := by
    obtain ⟨A', c', e, h3, h4, _⟩ := Row.of_own hw1
    injection e with e1 e2 e3
    subst e1 e3
    refine ⟨A, c, rfl, h3, h4, fun e => ?_, hr⟩
    have h5 := h0 e
    injection h5 with e1 e2 e3
    exact ⟨e1, e3⟩
  refine (insert_post29 pv _ xv p l x w hS hp hpe hLV hx.row hcl hcx hs hn).mono ?_
  rintro e w' ⟨⟨v, rfl, h⟩, hb⟩
  refine ⟨⟨v, rfl, ?_⟩, hb⟩
  rcases h with ⟨rfl, h⟩ | ⟨k, vs, hk, hvl, hc, ho, hi⟩
  · rw [← h]
    exact ⟨⟨ws, own_below hw1 hb, fun j z hz => by obtain ⟨u, h5, h6⟩ := hw2 j z hz; exact ⟨u, h5, h6.below hb⟩⟩, .inl rfl⟩
  · rw [← hi]
    refine ⟨lrow_ins (own_base ho hbs) hvl hk (fun i y hy => ?_) (hx.below hb), .inr ?_⟩
    · have hil := (List.getElem?_eq_some_iff.1 hy).1
      have hu : vs[i]? = some (vs[i]'(by omega)) := List.getElem?_eq_getElem _
      obtain ⟨ad, n, c2, e, hcu⟩ := hc i _ hu
      injection e with e1 e2 e3
      subst e1
      obtain ⟨u, h5, h6⟩ := hw2 i y hy
      obtain ⟨g, cap, e4⟩ := own_form hw1 (by omega)
      injection e4 with e5 e6 e7
      injection e5 with e5
      subst e5
      have h7 := own_cellsL (c := c) hw1 i u h5
      rw [h7] at hcu
      cases hcu
      exact ⟨_, hu, h6.below hb⟩
    · obtain ⟨g, cap, rfl⟩ := own_form ho (by omega)
      refine ⟨g, rfl, ?_⟩
      rcases ho.2 with ⟨e, _⟩ | ⟨g', cap', cur, e, hbg, _⟩
      · cases e
      · cases e; exact hbg

end Go.Proofs.YtcfkclafpbaagaaGreatDoor

namespace Go.Proofs.YtcfkclafpbaagaaGreatDoor
open Go.RowKit Go.Lib Go.Shelf

theorem insert_once (pv lv xv : Value) (p : List Int) (m : List (List Int)) (x : List Int) (w : World) (hS : Std w) (hp : IsRow w w.heap.size pv p) (hpe : primeErr p = 0) (hl : LstV w lv (onceL p m)) (hx : IsRow w w.heap.size xv x)
    (hm : ∀ y ∈ m, chkAll p [y] = 0) (hcx : chkAll p [x] = 0) (hn : m.length ≤ 1000) :
    Calls Tryz.prog 16 #[pv, lv, xv] w fun e w' => (∃ v, e = .returned v ∧ LstV w' v (onceL p (m ++ [x]))) ∧ Below w.heap.size w w' := by
  obtain ⟨h1, h2⟩ := onceL_slt (primed hpe) (fun y hy => (right_of (hm y hy)).len)
  have h := insert_any29 pv lv xv p (onceL p m) x w hS hp hpe hl hx (fun y hy => hm y ((h2 y).1 hy)) hcx h1 (Nat.le_trans (once_len p m) hn)
  rw [once_app]
  exact h

/-- A list of its own, apart from another one's block. -/
structure LO (w : World) (base : Nat) (vx v : Value) (l : List (List Int)) : Prop where
  row : LRow w base v l
  nil : l = [] → v = .slice Option.none 0 0
  apart : ∀ g, v.ownBlock = some g → vx.ownBlock = some g → False
theorem LO.below {w w' : World} {base : Nat} {vx v : Value} {l : List (List Int)} (h : LO w base vx v l) (hb : Below w.heap.size w w') : LO w' base vx v l := ⟨h.row.below hb, h.nil, h.apart⟩
theorem LO.grow {w w' : World} {base base' n : Nat} {vx vx' v : Value} {l : List (List Int)} {ws : List Value} (h : LO w base vx v l) (hx : w.ownsRow base' 28 1 vx n ws) (hg : w.grownBy w' vx.ownBlock) (hat : vx'.ownBlock = vx.ownBlock ∨ vx'.ownBlock = some w.heap.size) : LO w' base vx' v l := by
  obtain ⟨vs, h1, h2⟩ := h.row
  refine ⟨⟨vs, World.ownsRow.kept h1 hg ?_, fun j y hj => ?_⟩, h.nil, fun g e1 e2 => ?_⟩
  · by_cases hv : v.ownBlock = Option.none
    · exact .inl hv
    · right
      intro e
      obtain ⟨j, hj⟩ := Option.ne_none_iff_exists'.1 hv
      exact h.apart j hj (e ▸ hj)
  · obtain ⟨u, h3, h4⟩ := h2 j y hj
    exact ⟨u, h3, h4.grown hx (by decide) hg⟩
  · rcases hat with e | e
    · exact h.apart g e1 (e ▸ e2)
    · rw [e] at e2
      have := (h1.lt g e1).2
      cases e2
      omega
theorem LO.empty (w : World) (base : Nat) (vx : Value) : LO w base vx (.slice Option.none 0 0) [] := ⟨LRow.nil _ _, fun _ => rfl, fun g e => by simp [Value.ownBlock] at e⟩
theorem LO.rows {w : World} {base : Nat} {vx v : Value} {l : List (List Int)} (h : LO w base vx v l) : ∃ A c, v = .slice A l.length c ∧ RowsAt w w.heap.size A l := by
  obtain ⟨A, c, rfl⟩ := h.row.shape
  exact ⟨A, c, rfl, h.row.rows.2⟩

theorem insert_lo (pv lv xv vx : Value) (p : List Int) (m : List (List Int)) (x : List Int) (base : Nat) (w : World) (hS : Std w) (hp : IsRow w w.heap.size pv p) (hpe : primeErr p = 0) (hl : LO w base vx lv (onceL p m)) (hx : ORow w xv x)
    (hm : ∀ y ∈ m, chkAll p [y] = 0) (hcx : chkAll p [x] = 0) (hn : m.length ≤ 1000) (hbs : base ≤ w.heap.size) (hvx : ∀ g, vx.ownBlock = some g → g < w.heap.size) :
    Calls Tryz.prog 16 #[pv, lv, xv] w fun e w' => (∃ v, e = .returned v ∧ LO w' base vx v (onceL p (m ++ [x]))) ∧ Below w.heap.size w w' := by
  have hlen : ∀ y ∈ m, y.length = p.length := fun y hy => (right_of (hm y hy)).len
  obtain ⟨h1, h2⟩ := onceL_slt (primed hpe) hlen
  refine (insert_own29 pv lv xv p (onceL p m) x base w hS hp hpe hl.row hx (fun y hy => hm y ((h2 y).1 hy)) hcx h1 (Nat.le_trans (once_len p m) hn) hl.nil hbs).mono ?_
  rintro e w' ⟨⟨v, rfl, h3, h4⟩, hb⟩
  have e5 : onceL p (m ++ [x]) = insR p (onceL p m) x := by rw [once_app]; rfl
  refine ⟨⟨v, rfl, by rw [e5]; exact h3, fun e => ?_, fun g e1 e2 => ?_⟩, hb⟩
  · have hm2 := (insR_mem (primed hpe) (s := onceL p m) (fun y hy => hlen y ((h2 y).1 hy)) (right_of hcx).len x).2 (.inl rfl)
    rw [← e5, e] at hm2
    simp at hm2
  · rcases h4 with rfl | ⟨g', e6, h7⟩
    · exact hl.apart g e1 e2
    · rw [e6] at e1
      cases e1
      have := hvx g e2
      omega

/-- The intervals of the law. -/
def ivls (p : List Int) (l : List (List Int)) : List (List Int) := l.map fun f => ivlTo f p.length
theorem ivls_len (p : List Int) (l : List (List Int)) : (ivls p l).length = l.length := by unfold ivls; rw [List.length_map]
theorem ivls_get {p : List Int} {l : List (List Int)} {k : Nat} (h : k < l.length) : (ivls p l)[k]'(by rw [ivls_len]; exact h) = ivlTo l[k] p.length := by unfold ivls; rw [List.getElem_map]
theorem ivl_smR {p : List Int} (f : List Int) : SmR p (ivlTo f p.length) := by
  have h9 : ∀ i : Nat, ((ivlTo f p.length)[i]?.getD 0).natAbs ≤ 9 := fun i => by
    by_cases hi : i < p.length
    · rw [ivlTo_get f i _ hi]
      have := tmod_bound (f[i]?.getD 0)
      omega
    · rw [List.getElem?_eq_none (by rw [ivlTo_len]; omega)]; decide
  exact ⟨ivlTo_len _ _, by have := h9 0; omega, fun i _ => h9 i⟩
theorem ivls_sm {p : List Int} {l : List (List Int)} : ∀ x ∈ ivls p l, SmR p x := by
  intro x hx
  obtain ⟨f, _, rfl⟩ := List.mem_map.1 hx
  exact ivl_smR f
theorem chk_all {p : List Int} (hp : primeErr p = 0) : ∀ {l : List (List Int)}, (∀ x ∈ l, chkAll p [x] = 0) → chkAll p l = 0
  | [], _ => by unfold chkAll; rw [if_neg (by simp [hp])]; rfl
  | x :: l, h => by
    have h1 := h x List.mem_cons_self
    have h2 := chk_all hp (l := l) (fun y hy => h y (List.mem_cons_of_mem _ hy))
    unfold chkAll at h1 h2 ⊢
    rw [if_neg (by simp [hp])] at h1 h2 ⊢
    unfold rowsErr at h1 ⊢
    by_cases h3 : rowErr p.length x = 0
    · rw [if_neg (by simp [h3])]; exact h2
    · rw [if_pos h3] at h1; exact absurd h1 h3

theorem four_at {w : World} {A : Option Addr} {n c k : Nat} {l : List (List Int)} (h : FoursArg w (.slice A n c) l) (hk : k < l.length) :
    ∃ b o f0 f1 f2 f3, A = some ⟨b, o, Option.none⟩ ∧ b < w.heap.size ∧ l[k] = [f0, f1, f2, f3] ∧ Four [f0, f1, f2, f3] ∧ w.cell? ⟨b, o + k * 4, Option.none⟩ = some (.int .i8 f0) ∧ w.cell? ⟨b, o + k * 4 + 1, Option.none⟩ = some (.int .i8 f1) ∧ w.cell? ⟨b, o + k * 4 + 2, Option.none⟩ = some (.int .i8 f2) ∧ w.cell? ⟨b, o + k * 4 + 3, Option.none⟩ = some (.int .i8 f3) := by
  obtain ⟨A', c', e, _, h2⟩ := h
  injection e with e1 e2 e3
  subst e1
  obtain ⟨_, ad, rfl, hb, hc0⟩ := h2 0 l[0] (List.getElem?_eq_getElem (by omega))
  have hpl : ∃ b o, ad = ⟨b, o, Option.none⟩ := by
    have := hc0 0 (by omega)
    rw [show ad.add (0 * 4 + 0) = ad by unfold Addr.add; simp] at this
    exact addr_plain this
  obtain ⟨b, o, rfl⟩ := hpl
  obtain ⟨h4, ad, e, _, hc⟩ := h2 k l[k] (List.getElem?_eq_getElem hk)
  cases e
  have hl4 := h4.len
  generalize l[k] = f at *
  match f, hl4 with
  | [f0, f1, f2, f3], _ =>
    refine ⟨b, o, f0, f1, f2, f3, rfl, hb, rfl, h4, ?_, ?_, ?_, ?_⟩
    · have := hc 0 (by omega); rw [Lib.add_plain] at this; exact this
    · have := hc 1 (by omega); rw [Lib.add_plain, ← Nat.add_assoc] at this; exact this
    · have := hc 2 (by omega); rw [Lib.add_plain, ← Nat.add_assoc] at this; exact this
    · have := hc 3 (by omega); rw [Lib.add_plain, ← Nat.add_assoc] at this; exact this

/-! One interval more. -/
theorem selsW_yes {p : List Int} {l : List (List Int)} {k : Nat} (hk : k < l.length) (h : zeroB (rOf p l[k]) = false) : selsW p (rOf p) (cOf p) l (k + 1) = selsW p (rOf p) (cOf p) l k ++ [rOf p l[k]] := by
  rw [selsW_next hk, selW, h]; rfl
theorem selsW_no {p : List Int} {l : List (List Int)} {k : Nat} (hk : k < l.length) (h : zeroB (rOf p l[k]) = true) : selsW p (rOf p) (cOf p) l (k + 1) = selsW p (rOf p) (cOf p) l k := by
  rw [selsW_next hk, selW, if_pos h, List.append_nil]
theorem selsP_yes {p : List Int} {l : List (List Int)} {k : Nat} (hk : k < l.length) (h : zeroB (rOf p l[k]) = false) : selsP p (rOf p) (cOf p) l (k + 1) = selsP p (rOf p) (cOf p) l k ++ [rOf p l[k]] ++ [cOf p l[k]] := by
  rw [selsP_next hk, selP, h, List.append_assoc]; rfl
theorem selsP_no {p : List Int} {l : List (List Int)} {k : Nat} (hk : k < l.length) (h : zeroB (rOf p l[k]) = true) : selsP p (rOf p) (cOf p) l (k + 1) = selsP p (rOf p) (cOf p) l k := by
  rw [selsP_next hk, selP, if_pos h, List.append_nil]
theorem selsL_yes {p : List Int} {l : List (List Int)} {k : Nat} (hk : k < l.length) (h : zeroB (rOf p l[k]) = false) : selsL p (rOf p) (cOf p) l (k + 1) = selsL p (rOf p) (cOf p) l k ++ [if ltR p (cOf p l[k]) (rOf p l[k]) then cOf p l[k] else rOf p l[k]] := by
  rw [selsL_next hk, selL, h]; rfl
theorem selsL_no {p : List Int} {l : List (List Int)} {k : Nat} (hk : k < l.length) (h : zeroB (rOf p l[k]) = true) : selsL p (rOf p) (cOf p) l (k + 1) = selsL p (rOf p) (cOf p) l k := by
  rw [selsL_next hk, selL, if_pos h, List.append_nil]

/-- All rows of the lists are small. -/
theorem selsW_sm {p : List Int} {a : Nat} {A : List Nat} (hT : TabOk p a A) {l : List (List Int)} (hl : ∀ x ∈ l, SmR p x) (k : Nat) : ∀ y ∈ selsW p (rOf p) (cOf p) l k, SmR p y := by
  intro y hy
  obtain ⟨x, hx, hy⟩ := List.mem_flatMap.1 hy
  have h := hl x (List.mem_of_mem_take hx)
  unfold selW at hy
  split at hy
  · simp at hy
  · rw [List.mem_singleton.1 hy]; exact smR_r hT h
theorem selsP_sm {p : List Int} {a : Nat} {A : List Nat} (hT : TabOk p a A) {l : List (List Int)} (hl : ∀ x ∈ l, SmR p x) (k : Nat) : ∀ y ∈ selsP p (rOf p) (cOf p) l k, SmR p y := by
  intro y hy
  obtain ⟨x, hx, hy⟩ := List.mem_flatMap.1 hy
  have h := hl x (List.mem_of_mem_take hx)
  unfold selP at hy
  split at hy
  · simp at hy
  · simp at hy
    rcases hy with rfl | rfl
    · exact smR_r hT h
    · exact smR_c hT h
theorem selsL_sm {p : List Int} {a : Nat} {A : List Nat} (hT : TabOk p a A) {l : List (List Int)} (hl : ∀ x ∈ l, SmR p x) (k : Nat) : ∀ y ∈ selsL p (rOf p) (cOf p) l k, SmR p y := by
  intro y hy
  obtain ⟨x, hx, hy⟩ := List.mem_flatMap.1 hy
  have h := hl x (List.mem_of_mem_take hx)
  unfold selL at hy
  split at hy
  · simp at hy
  · rw [List.mem_singleton.1 hy]
    split
    · exact smR_c hT h
    · exact smR_r hT h

end Go.Proofs.YtcfkclafpbaagaaGreatDoor
