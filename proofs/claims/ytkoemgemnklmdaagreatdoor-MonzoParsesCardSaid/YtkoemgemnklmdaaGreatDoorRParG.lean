/- row.Parse of the text of a right row. -/
import Derived.Test.YtkoemgemnklmdaaGreatDoorSayG
import Derived.Test.YtkoemgemnklmdaaGreatDoorRIntG
import Derived.Test.YtkoemgemnklmdaaGreatDoorSplitG
namespace Go.Proofs.YtkoemgemnklmdaaGreatDoor
open Go.RowKit Go.Lib

theorem trim_dash (z : Int) : Lib.trimPrefix (itoa z) [45] = decDigits z.natAbs := by
  unfold Lib.trimPrefix Lib.hasPrefix
  rcases itoa_cases z with ⟨_, e⟩ | ⟨_, e⟩
  · rw [e]; simp [List.isPrefixOf]
  · rw [e]
    obtain ⟨c, r, e2, hc, _⟩ := dec_first z.natAbs
    have h : c ≠ 45 := fun h => by subst h; simp at hc
    rw [e2, if_neg (by simp [List.isPrefixOf, Ne.symm h])]
theorem word_zero (z : Int) : (itoa z == [48]) = decide (z = 0) := itoa_zero_beq z
theorem dec_head0 (n : Nat) (h : 0 < n) : ((decDigits n)[0]?.getD 0).toNat ≠ 48 := by
  obtain ⟨c, r, e, hc⟩ := dec_head n h
  rw [e]; exact hc

set_option maxRecDepth 100000 in
set_option maxHeartbeats 1000000 in
theorem canonical_word (z : Int) (w : World) (hl : (itoa z).length ≤ 1000) :
    Calls Tryz.prog 89 #[.string ⟨(itoa z).toArray⟩] w fun e w' => e = .returned (.bool true) ∧ Below w.heap.size w w' := by
  have HT := Lib.hid (fun W => trimPrefix_any (itoa z) [45] W)
  rw [trim_dash] at HT
  have hz := word_zero z
  have hdl : (decDigits z.natAbs).length ≤ 1000 := by
    rcases itoa_cases z with ⟨_, e⟩ | ⟨_, e⟩
    · rw [e, List.length_cons] at hl; omega
    · rw [e] at hl; exact hl
  have HDG : Box (∀ k, k < (decDigits z.natAbs).length → 48 ≤ ((decDigits z.natAbs)[k]?.getD 0).toNat ∧ ((decDigits z.natAbs)[k]?.getD 0).toNat ≤ 57) := ⟨fun k hk => by
    have := dec_dig z.natAbs _ (List.getElem_mem hk)
    rw [List.getElem?_eq_getElem hk]; exact this⟩
  have hx := ba_first (decDigits z.natAbs)
  have hh : z ≠ 0 → (((decDigits z.natAbs)[0]?.getD 0).toNat) ≠ 48 := fun h => dec_head0 _ (by omega)
  have hne : (decDigits z.natAbs).isEmpty = false := by obtain ⟨c, r, e, _⟩ := dec_first z.natAbs; rw [e]; rfl
  have hd0 : 0 < (decDigits z.natAbs).length := by obtain ⟨c, r, e, _⟩ := dec_first z.natAbs; rw [e]; simp
  generalize decDigits z.natAbs = d at *
  generalize itoa z = l at *
  generalize hc0 : d[0]?.getD 0 = c at *
  have HH := Lib.hid hh
  clear hh hc0
  go_enter Tryz.func89, Tryz.ntmps89
  go_wp2_with fail
  refine (HT.out _).mono ?_
  rintro e w1 ⟨rfl, hb1⟩
  go_wp2_with (refine wpList_bytes _ rfl _ _ _ rfl 5 Tryz.underlying9 Tryz.underlying134 Tryz.underlying5 _ rfl d (mk_toList d) ?_; intro cap w2 hb2 hr2)
  replace hb2 := hb1.trans (hb2.mono hb1.size)
  go_loop [11] (fun i => ∃ k : Nat, k ≤ d.length ∧ i = .int .i64 k) (fun i => d.length - (intOf i).toNat)
  case atStart => exact ⟨0, Nat.zero_le _, rfl⟩
  case round =>
    obtain ⟨k, hk, rfl⟩ := hrel
    by_cases hlt : k < d.length
    · have hcell : w2.cell? ⟨w1.heap.size, k, Option.none⟩ = some (.int .u8 (((d[k]?.getD 0).toNat : Nat) : Int)) := by
        obtain ⟨ad, e, _, hc⟩ := hr2.b_at hlt
        injection e with e
        subst e
        rw [addr0] at hc
        exact hc
      have hdg := HDG.out k hlt
      generalize d[k]?.getD 0 = ck at *
      clear hr2
      go_wp2
      go_round
      case rel => exact ⟨k + 1, by omega, by go_num⟩
      case measure => simp [intOf]; omega
    · obtain rfl : k = d.length := by omega
      clear hr2
      by_cases h0 : z = 0
      · rw [decide_eq_true h0] at hz
        go_wp2_with fail
        go_ret
        exact ⟨rfl, hb2⟩
      · rw [decide_eq_false h0] at hz
        have hc3 : ((c.toNat : Int) != 48) = true := by have := HH.out h0; rw [bne_iff_ne]; omega
        go_wp2_with fail
        go_ret
        exact ⟨rfl, hb2⟩

theorem notCanon_word (z : Int) (w : World) (hl : (itoa z).length ≤ 1000) :
    Calls Tryz.prog 88 #[.string ⟨(itoa z).toArray⟩] w fun e w' => e = .returned (.bool false) ∧ Below w.heap.size w w' := by
  have HC := Lib.hid (fun W => canonical_word z W hl)
  generalize itoa z = l at *
  go_enter Tryz.func88, Tryz.ntmps88
  go_wp2_with fail
  refine (HC.out _).mono ?_
  rintro e w1 ⟨rfl, hb1⟩
  go_wp2_with fail
  go_ret
  exact ⟨rfl, hb1⟩

/-- A slice of the words of a row, in a block of its own. -/
def WordsAt (w : World) (b : Nat) (x : List Int) : Prop := b < w.heap.size ∧ ∀ k, k < x.length → w.cell? ⟨b, k, Option.none⟩ = some (.string ⟨(itoa (x[k]?.getD 0)).toArray⟩)
theorem WordsAt.below {w w' : World} {b : Nat} {x : List Int} (h : WordsAt w b x) (hb : Below w.heap.size w w') : WordsAt w' b x :=
  ⟨Nat.lt_of_lt_of_le h.1 hb.size, fun k hk => (hb.cell h.1).trans (h.2 k hk)⟩

set_option maxRecDepth 100000 in
set_option maxHeartbeats 1000000 in
theorem indexWords (b : Nat) (x : List Int) (w : World) (hw : WordsAt w b x) (hx : ∀ k, k < x.length → (itoa (x[k]?.getD 0)).length ≤ 1000) (h64 : x.length ≤ 64) :
    Calls Tryz.prog 119 #[.slice (some ⟨b, 0, Option.none⟩) x.length x.length, .func (.func 88) #[] #[]] w fun e w' => e = .returned (.int .i64 (-1)) ∧ Below w.heap.size w w' := by
  have HW := Lib.hid hw
  have HX : Box (∀ k, k < x.length → (itoa (x[k]?.getD 0)).length ≤ 1000) := ⟨hx⟩
  clear hw hx
  go_enter Tryz.func119, Tryz.ntmps119
  go_wp2_with fail
  go_loopw [8] (fun i wr => ∃ k : Nat, k ≤ x.length ∧ i = .int .i64 k ∧ Below w.heap.size w wr) (fun i _ => x.length - (intOf i).toNat)
  case atStart => exact ⟨0, Nat.zero_le _, rfl, Below.refl _ _⟩
  case round =>
    obtain ⟨k, hk, rfl, hbw⟩ := hrel
    by_cases hlt : k < x.length
    · have hc := (HW.out.below hbw).2 k hlt
      have HN := Lib.hid (fun W => notCanon_word (x[k]?.getD 0) W (HX.out k hlt))
      generalize itoa (x[k]?.getD 0) = l at *
      go_wp2_with fail
      refine (HN.out _).mono ?_
      rintro e w1 ⟨rfl, hb1⟩
      go_wp2_with fail
      go_roundw
      case rel => exact ⟨k + 1, by omega, by go_num, hbw.trans (hb1.mono hbw.size)⟩
      case measure => simp [intOf]; omega
    · obtain rfl : k = x.length := by omega
      go_wp2_with fail
      go_ret
      exact ⟨rfl, hbw⟩

end Go.Proofs.YtkoemgemnklmdaaGreatDoor
