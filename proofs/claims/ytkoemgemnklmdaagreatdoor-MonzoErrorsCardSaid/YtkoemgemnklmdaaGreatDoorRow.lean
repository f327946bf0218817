/- row.Check, row.Text, monzo.Brackets. -/
import Derived.Test.YtkoemgemnklmdaaGreatDoorFt
namespace Go.Proofs.YtkoemgemnklmdaaGreatDoor
open Go.RowKit Go.Lib

def fitsB (v : Int) : Bool := decide (-1000000000 ≤ v) && decide (v ≤ 1000000000)

theorem fits_any (v : Int) (w : World) : Calls Tryz.prog 98 #[.int .i64 v] w fun e w' => e = .returned (.bool (fitsB v)) ∧ w = w' := by
  have HE : Hid (fitsB v = (decide (-1000000000 ≤ v) && decide (v ≤ 1000000000))) := rfl
  by_cases h1 : -1000000000 ≤ v
  · by_cases h2 : v ≤ 1000000000
    · go_enter Tryz.func98, Tryz.ntmps98
      go_wp2
      go_ret
      exact ⟨ret1 (congrArg Value.bool (by rw [HE.out]; simp [h1, h2])), rfl⟩
    · go_enter Tryz.func98, Tryz.ntmps98
      go_wp2
      go_ret
      exact ⟨ret1 (congrArg Value.bool (by rw [HE.out]; simp [h1, h2])), rfl⟩
  · go_enter Tryz.func98, Tryz.ntmps98
    go_wp2
    go_ret
    exact ⟨ret1 (congrArg Value.bool (by rw [HE.out, decide_eq_false (by omega)]; rfl)), rfl⟩

theorem rowCheck1_any (v : Int) (w : World) : Calls Tryz.prog 97 #[.int .i64 v] w fun e w' => e = .returned (.bool (!fitsB v)) ∧ w = w' := by
  have HF := Lib.hid (fits_any v w)
  generalize fitsB v = b at *
  go_enter Tryz.func97, Tryz.ntmps97
  go_wp2_with (go_at_call 98; refine HF.out.mono ?_; rintro e w1 ⟨rfl, rfl⟩)
  go_ret
  exact ⟨rfl, rfl⟩

theorem addr_plain {w : World} {ad : Addr} {v : Value} (h : w.cell? ad = some v) : ∃ b o, ad = ⟨b, o, Option.none⟩ := by
  obtain ⟨b, o, s⟩ := ad
  have hs : s = Option.none := World.cell?_spot h
  subst hs
  exact ⟨b, o, rfl⟩

theorem Row.plain {w : World} {B n : Nat} {A : Option Addr} {x : List Int} (h : Row w B 1 A n (is x)) (hn : 0 < n) : ∃ b o, A = some ⟨b, o, Option.none⟩ ∧ b < B ∧ ∀ k, k < n → w.cell? ⟨b, o + k, Option.none⟩ = some (.int .i64 (x[k]?.getD 0)) := by
  obtain ⟨ad, rfl, hb, hc⟩ := h.i_at hn
  have hz : ad.add 0 = ad := by unfold Addr.add; simp
  rw [hz] at hc
  obtain ⟨b, o, rfl⟩ := addr_plain hc
  refine ⟨b, o, rfl, hb, fun k hk => ?_⟩
  obtain ⟨ad', e, _, hc'⟩ := h.i_at hk
  injection e with e
  subst e
  rw [Lib.add_plain] at hc'
  exact hc'

/-- The error of a row. -/
def rowChk (x : List Int) : Int := if 64 < x.length ∨ x.any (fun v => !fitsB v) = true then 4 else 0

theorem drew_below {w w' : World} (h : ∃ q, w' = w.drewN q) : Below w.heap.size w w' := by
  obtain ⟨q, rfl⟩ := h
  exact below_drewN (Below.refl _ _) q

theorem contains_row (v : Value) (x : List Int) (w : World) (hv : IsRow w w.heap.size v x) :
    Calls Tryz.prog 96 #[v, .func (.func 97) #[] #[]] w fun e w' => e = .returned (.bool (x.any (fun v => !fitsB v))) ∧ Below w.heap.size w w' := by
  obtain ⟨A, c, rfl, hc, hm, hr⟩ := hv
  unfold maxLen at hm
  rcases Nat.eq_zero_or_pos x.length with h0 | h0
  · have : x = [] := List.eq_nil_of_length_eq_zero h0
    subst this
    exact (Tryz.slices_ContainsFunc_f96_empty (α := Int) A c _ w).mono fun e w' ⟨h1, h2⟩ => ⟨h1, h2 ▸ Below.refl _ _⟩
  · obtain ⟨b, o, rfl, _, hcell⟩ := hr.plain h0
    have h := Tryz.slices_ContainsFunc_f96 (Value.int .i64) (fun v => !fitsB v) 97 #[] (fun args w => enters_of Tryz.func97 (by kernel_rfl) rfl args w) b o x.length c x w
      (fun W y _ => (rowCheck1_any y W).mono fun e w' ⟨h1, h2⟩ => ⟨h1, 0, by rw [World.drewN_zero]; exact h2.symm⟩) (Nat.le_refl _) (by omega) (fun j hj => by rw [hcell j hj, getElem!_pos x j hj, List.getElem?_eq_getElem hj]; rfl)
    rw [List.take_of_length_le (Nat.le_refl _)] at h
    exact h.mono fun e w' ⟨h1, h2⟩ => ⟨h1, drew_below h2⟩

set_option maxHeartbeats 400000 in
theorem rowCheck_any (v : Value) (x : List Int) (w : World) (hv : IsRow w w.heap.size v x) :
    Calls Tryz.prog 53 #[v] w fun e w' => e = .returned (.int .i64 (rowChk x)) ∧ Below w.heap.size w w' := by
  have HC := Lib.hid (contains_row v x w hv)
  obtain ⟨A, c, rfl, hc, hm, _⟩ := hv
  unfold maxLen at hm
  by_cases h64 : 64 < x.length
  · have HE : Box (rowChk x = 4) := ⟨by unfold rowChk; rw [if_pos (.inl h64)]⟩
    go_enter Tryz.func53, Tryz.ntmps53
    go_wp2_with fail
    go_ret
    exact ⟨ret_int HE.out.symm, Below.refl _ _⟩
  · cases hb : x.any (fun v => !fitsB v) with
    | true =>
      have HE : Box (rowChk x = 4) := ⟨by unfold rowChk; rw [if_pos (.inr hb)]⟩
      rw [hb] at HC
      clear hb
      go_enter Tryz.func53, Tryz.ntmps53
      go_wp2_with fail
      refine HC.out.mono ?_
      rintro e w1 ⟨rfl, hb1⟩
      go_wp2_with fail
      go_ret
      exact ⟨ret_int HE.out.symm, hb1⟩
    | false =>
      have HE : Box (rowChk x = 0) := ⟨by unfold rowChk; rw [if_neg (by rw [hb]; simp; omega)]⟩
      rw [hb] at HC
      clear hb
      go_enter Tryz.func53, Tryz.ntmps53
      go_wp2_with fail
      refine HC.out.mono ?_
      rintro e w1 ⟨rfl, hb1⟩
      go_wp2_with fail
      go_ret
      exact ⟨ret_int HE.out.symm, hb1⟩

/-! ### The text of a row -/

def strs (l : List (List UInt8)) : List Value := l.map fun s => Value.string ⟨s.toArray⟩
theorem strs_one (l : List (List UInt8)) : ∀ u ∈ strs l, u.oneCell' = true := by intro u hu; obtain ⟨n, _, rfl⟩ := List.mem_map.1 hu; rfl

theorem Tryz.info_string : (Tryz.prog.info? 9).map (fun i => (i.zero, i.size, i.bytes)) = some (some (.string ⟨#[]⟩), 1, 16) := by kernel_rfl

/-- The numbers of a row as texts, and all of them with blanks. -/
def words (x : List Int) : List (List UInt8) := x.map itoa
def rowTxt (x : List Int) : List UInt8 := Lib.join (words x) [32]

theorem words_take (x : List Int) (k : Nat) (hk : k < x.length) : words (x.take (k + 1)) = words (x.take k) ++ [itoa (x[k]?.getD 0)] := by
  unfold words
  rw [List.take_succ_eq_append_getElem hk, List.map_append, List.getElem?_eq_getElem hk]; rfl

set_option maxRecDepth 100000 in
set_option maxHeartbeats 1000000 in
theorem rowText_run (v : Value) (x : List Int) (w : World) (hS : Std w) (hv : IsRow w w.heap.size v x) (h : rowChk x = 0) (h64 : x.length ≤ 64) (hx : ∀ k, k < x.length → -1000000000 ≤ x[k]?.getD 0 ∧ x[k]?.getD 0 ≤ 1000000000) (hj : (rowTxt x).length ≤ 100000) (b : Bool) :
    Calls Tryz.prog 18 #[v, .bool b] w fun e w' => e = .returned (.tuple #[.string ⟨(if b then 91 :: rowTxt x ++ [62] else 60 :: rowTxt x ++ [93]).toArray⟩, .int .i64 0]) ∧ Below w.heap.size w w' := by
  obtain ⟨i0, hi0, hz0, hz1, hz2⟩ := info_parts Tryz.info_string
  have HC := Lib.hid (rowCheck_any v x w hv)
  rw [h] at HC
  have HV := Lib.hid hv
  have HX := Lib.hid hx
  have HS := Lib.hid hS
  obtain ⟨A, c, rfl, hc, hm, _⟩ := hv
  clear h hx hS hm hc
  go_enter Tryz.func18, Tryz.ntmps18
  go_wp2_with fail
  refine HC.out.mono ?_
  rintro e w1 ⟨rfl, hb1⟩
  go_wp2_with fail
  go_loopw [7, 18] (fun o i wr => ∃ k : Nat, k ≤ x.length ∧ i = .int .i64 k ∧ wr.ownsRow w.heap.size 9 1 o k (strs (words (x.take k))) ∧ Below w.heap.size w wr) (fun _ i _ => x.length - (intOf i).toNat)
  case atStart => exact ⟨0, Nat.zero_le _, rfl, by rw [List.take_zero]; exact World.ownsRow_nil _ _ _ _, hb1⟩
  case round =>
    clear hb1
    obtain ⟨k, hk, rfl, hown, hbw⟩ := hrel
    by_cases hlt : k < x.length
    · obtain ⟨A', c', e', _, _, hr⟩ := HV.out
      injection e' with e1 _ e3
      subst e1 e3
      obtain ⟨ad, rfl, _, hca⟩ := (hr.below hbw (Nat.le_refl _)).i_at hlt
      have hxk := HX.out k hlt
      have HW := Lib.hid (words_take x k hlt)
      generalize x[k]?.getD 0 = y at *
      have HI := Lib.hid (Tryz.strconv_Itoa y (by omega) (by omega) wr (HS.out.below hbw (Nat.le_refl _)).tab)
      have HO := Lib.hid hown
      clear hown hr
      go_wp2_with (first | (go_at_call 54; refine HI.out.mono ?_; rintro e w2 ⟨rfl, hw⟩; have hb2 := grow_below hw; clear hw; have hown2 := own_below HO.out hb2) | (at_builtin; refine wpList_append_own _ rfl _ _ _ rfl w.heap.size 9 i0 (.string ⟨#[]⟩) 1 16 Tryz.underlying85 hi0 hz0 hz1 hz2 rfl (by decide) _ _ _ rfl (hown2.alloc _) ⟨w2.heap.size, 0, Option.none⟩ 1 1 [_] rfl rfl (cell_one_new _ _ _) (by intro u hu; simp at hu; subst hu; rfl) (by unfold maxLen; omega) (by omega) (by have := hbw.size; have := hb2.size; simp; omega) ?_; intro v3 w3 hown3 hg3 _))
      go_wp2
      go_roundw
      case rel =>
        refine ⟨k + 1, by omega, by go_num, ?_, ?_⟩
        · rw [HW.out]
          unfold strs
          rw [List.map_append]
          exact hown3
        · exact ((hbw.trans (hb2.mono hbw.size)).alloc (by have := hbw.size; have := hb2.size; omega) _).grown hg3 (by have := hbw.size; have := hb2.size; simp; omega) (fun k hk => (HO.out.lt k hk).1)
      case measure => simp [intOf]; omega
    · obtain rfl : k = x.length := by omega
      have HJ : Hid (Calls Tryz.prog 55 #[u7, .string ⟨#[32]⟩] wr fun e w' => e = .returned (.string ⟨(rowTxt x).toArray⟩) ∧ Below wr.heap.size wr w') := by
        rw [List.take_of_length_le (Nat.le_refl _)] at hown
        have hwl : (words x).length = x.length := by simp [words]
        rcases Nat.eq_zero_or_pos x.length with h0 | h0
        · obtain ⟨A7, c7, rfl, _, _, _⟩ := Row.of_own hown
          have hn : x = [] := List.eq_nil_of_length_eq_zero h0
          rw [h0]
          refine (Tryz.strings_Join_none A7 c7 ⟨#[32]⟩ wr).mono fun e w' ⟨h1, h2⟩ => ⟨?_, h2 ▸ Below.refl _ _⟩
          rw [h1, hn]; rfl
        · obtain ⟨A7, c7, rfl, hc7, hm7, hr7⟩ := Row.of_own hown
          have hcell : ∀ j s, (words x)[j]? = some s → ∃ ad, A7 = some ad ∧ ad.block < wr.heap.size ∧ wr.cell? (ad.add j) = some (.string ⟨s.toArray⟩) := by
            intro j s hs
            exact hr7.get j _ (by unfold strs; rw [List.getElem?_map, hs]; rfl)
          have h0w : 0 < (words x).length := by omega
          obtain ⟨ad, rfl, hadb, hc0⟩ := hcell 0 _ (List.getElem?_eq_getElem h0w)
          have hz : ad.add 0 = ad := by unfold Addr.add; simp
          rw [hz] at hc0
          obtain ⟨bk, o, rfl⟩ := addr_plain hc0
          have hJ := Tryz.strings_Join bk o c7 ((words x).map fun s => ⟨s.toArray⟩) ⟨#[32]⟩ wr (by
            intro j s hs
            rw [List.getElem?_map] at hs
            cases hw : (words x)[j]? with
            | none => rw [hw] at hs; cases hs
            | some t =>
              rw [hw] at hs
              simp at hs
              subst hs
              obtain ⟨ad', e, _, hc'⟩ := hcell j t hw
              have e2 := Option.some.inj e
              subst e2
              rw [Lib.add_plain] at hc'
              exact hc') hadb (by simp; omega) (by simp; omega) (by
            rw [List.map_map]
            have : ((fun x : ByteArray => x.data.toList) ∘ fun s : List UInt8 => (⟨s.toArray⟩ : ByteArray)) = id := by funext s; rfl
            rw [this, List.map_id]
            exact Nat.le_trans hj (by omega))
          rw [List.length_map, hwl, List.map_map] at hJ
          have hid : ((fun x : ByteArray => x.data.toList) ∘ fun s : List UInt8 => (⟨s.toArray⟩ : ByteArray)) = id := by funext s; rfl
          rw [hid, List.map_id] at hJ
          exact hJ
      clear hown
      cases b with
      | true =>
        go_wp2_with (go_at_call 55; refine HJ.out.mono ?_; rintro e w2 ⟨rfl, hb2⟩)
        go_ret2
        refine ⟨ret2 (congrArg Value.string ?_) rfl, hbw.trans (hb2.mono hbw.size)⟩
        exact (congrArg (· ++ (⟨#[62]⟩ : ByteArray)) (ba_append [91] (rowTxt x))).trans (ba_append ([91] ++ rowTxt x) [62])
      | false =>
        go_wp2_with (go_at_call 55; refine HJ.out.mono ?_; rintro e w2 ⟨rfl, hb2⟩)
        go_ret2
        refine ⟨ret2 (congrArg Value.string ?_) rfl, hbw.trans (hb2.mono hbw.size)⟩
        exact (congrArg (· ++ (⟨#[93]⟩ : ByteArray)) (ba_append [60] (rowTxt x))).trans (ba_append ([60] ++ rowTxt x) [93])

end Go.Proofs.YtkoemgemnklmdaaGreatDoor
