/- row.Parse of the text of a right row: the walk. -/
import Derived.Test.YtkoemgemnklmdaaGreatDoorRParG
import Derived.Test.YtkoemgemnklmdaaGreatDoorGE
namespace Go.Proofs.YtkoemgemnklmdaaGreatDoor
open Go.RowKit Go.Lib

set_option maxRecDepth 100000 in
theorem containsWords (b : Nat) (x : List Int) (w : World) (hw : WordsAt w b x) (hx : ∀ k, k < x.length → (itoa (x[k]?.getD 0)).length ≤ 1000) (h64 : x.length ≤ 64) :
    Calls Tryz.prog 87 #[.slice (some ⟨b, 0, Option.none⟩) x.length x.length, .func (.func 88) #[] #[]] w fun e w' => e = .returned (.bool false) ∧ Below w.heap.size w w' := by
  have HI := Lib.hid (indexWords b x w hw hx h64)
  clear hw hx
  go_enter Tryz.func87, Tryz.ntmps87
  go_wp2_with fail
  refine HI.out.mono ?_
  rintro e w1 ⟨rfl, hb1⟩
  go_wp2_with fail
  go_ret
  exact ⟨rfl, hb1⟩

theorem itoa_no_space (z : Int) : ∀ c ∈ itoa z, c ≠ 32 := by
  intro c hc h
  subst h
  rcases itoa_cases z with ⟨_, e⟩ | ⟨_, e⟩
  · rw [e] at hc
    rcases List.mem_cons.1 hc with h | h
    · cases h
    · have := dec_dig _ _ h; unfold isDig at this; exact absurd this.1 (by decide)
  · rw [e] at hc
    have := dec_dig _ _ hc; unfold isDig at this; exact absurd this.1 (by decide)

theorem words_space (x : List Int) : ∀ l ∈ words x, ∀ c ∈ l, c ≠ 32 := by
  intro l hl
  unfold words at hl
  obtain ⟨z, _, rfl⟩ := List.mem_map.1 hl
  exact itoa_no_space z

/-- strings.Split of the words of a row. -/
theorem split_words (x : List Int) (m : Int) (w : World) (h0 : x ≠ []) (hs : (rowTxt x).length < 4294967281) (hm : w.cell? ⟨2, 0, Option.none⟩ = some (.int .i64 m)) :
    Calls Tryz.prog 86 #[.string ⟨(rowTxt x).toArray⟩, .string ⟨#[32]⟩] w fun e w' => ∃ b, e = .returned (.slice (some ⟨b, 0, Option.none⟩) x.length x.length) ∧ WordsAt w' b x ∧ Below w.heap.size w w' := by
  have hw0 : words x ≠ [] := by unfold words; simpa using h0
  obtain ⟨h1, h2⟩ := splitB_join (words x) hw0 (words_space x)
  have hl : (words x).length = x.length := by unfold words; simp
  rw [hl] at h1
  refine (split_run (rowTxt x) [32] m w hs hm (by decide)).mono fun e w' ⟨he, hw⟩ => ⟨w.heap.size, ?_, ?_, ?_⟩
  · rw [he]
    show Ending.returned (.slice _ (Lib.countB ⟨(Lib.join (words x) [32]).toArray⟩ ⟨#[32]⟩ + 1) (Lib.countB ⟨(Lib.join (words x) [32]).toArray⟩ ⟨#[32]⟩ + 1)) = _
    rw [h1]
  · have hw' : w' = w.alloc (.cells (((words x).map (fun l => (⟨l.toArray⟩ : ByteArray))).map Value.string).toArray 9) := by rw [← h2]; exact hw
    rw [hw']
    have hc := Cells.new w 9 (((words x).map (fun l => (⟨l.toArray⟩ : ByteArray))).map Value.string).toArray
    refine ⟨hc.lt, fun k hk => ?_⟩
    have := hc.cell k
    rw [this]
    unfold words
    simp [List.getElem?_map, List.getElem?_eq_getElem hk]
  · rw [hw]; exact (Below.refl _ _).alloc (Nat.le_refl _) _

theorem suffix_cut (l : List UInt8) : Lib.hasSuffix (l ++ [62]) [62] = true ∧ Lib.trimSuffix (l ++ [62]) [62] = l := by
  have h : Lib.hasSuffix (l ++ [62]) [62] = true := by
    unfold Lib.hasSuffix
    rw [List.isSuffixOf_iff_suffix]
    exact List.suffix_append _ _
  refine ⟨h, ?_⟩
  unfold Lib.trimSuffix
  rw [if_pos h]
  simp
theorem prefix_cut (l : List UInt8) : Lib.hasPrefix (91 :: l) [91] = true ∧ Lib.trimPrefix (91 :: l) [91] = l := by
  have h : Lib.hasPrefix (91 :: l) [91] = true := by unfold Lib.hasPrefix; simp [List.isPrefixOf]
  refine ⟨h, ?_⟩
  unfold Lib.trimPrefix
  rw [if_pos h]
  rfl

theorem atoi_word (z : Int) (w : World) (h1 : -1000000 ≤ z) (h2 : z ≤ 1000000) (hl : (itoa z).length ≤ 1000) :
    Calls Tryz.prog 90 #[.string ⟨(itoa z).toArray⟩] w fun e w' => e = .returned (.tuple #[.int .i64 z, .nilIface]) ∧ Below w.heap.size w w' :=
  (Tryz.strconv_Atoi_ok ⟨(itoa z).toArray⟩ (by simp [ByteArray.size]; omega) z (by simpa using atoi_itoa z (by omega) (by omega)) w).mono fun _ _ ⟨h, hw⟩ => ⟨h, bytes_below' hw⟩

set_option maxRecDepth 100000 in
set_option maxHeartbeats 2000000 in
theorem rowParse_yes (x : List Int) (m : Int) (w : World) (h0 : x ≠ []) (hj : (rowTxt x).length ≤ 1000) (h64 : x.length ≤ 64) (hx : ∀ k, k < x.length → -1000000 ≤ x[k]?.getD 0 ∧ x[k]?.getD 0 ≤ 1000000) (hxl : ∀ k, k < x.length → (itoa (x[k]?.getD 0)).length ≤ 1000) (hne : (rowTxt x).isEmpty = false) (hck : rowChk x = 0)
    (hm : w.cell? ⟨2, 0, Option.none⟩ = some (.int .i64 m)) :
    Calls Tryz.prog 51 #[.string ⟨(91 :: rowTxt x ++ [62]).toArray⟩] w fun e w' => (∃ A c, e = .returned (.tuple #[.slice A x.length c, .bool true, .int .i64 0]) ∧ IsRow w' w'.heap.size (.slice A x.length c) x) ∧ Below w.heap.size w w' := by
  obtain ⟨i0, hi0, hz0, hz1, hz2⟩ := info_parts Tryz.info_int
  have HC := Lib.hid (fun W => cutPrefix_any (91 :: rowTxt x ++ [62]) [91] W)
  rw [List.cons_append, (prefix_cut _).1, (prefix_cut _).2] at HC
  have HU := Lib.hid (fun W => cutSuffix_any (rowTxt x ++ [62]) [62] W (by simp; omega))
  rw [(suffix_cut _).1, (suffix_cut _).2] at HU
  have HSP := Lib.hid (fun W hm => split_words x m W h0 (by omega) hm)
  have HCW := Lib.hid (fun b W hw => containsWords b x W hw hxl h64)
  have HA := Lib.hid (fun k hk W => atoi_word (x[k]?.getD 0) W (hx k hk).1 (hx k hk).2 (hxl k hk))
  have HRC := Lib.hid (fun v W hv => rowCheck_any v x W hv)
  rw [hck] at HRC
  have HM := Lib.hid hm
  have hlt : ((91 :: rowTxt x ++ [62]).length : Int) ≤ 65536 := by simp; omega
  rw [List.cons_append] at hlt ⊢
  clear hx hxl hck hm h0
  generalize rowTxt x = tx at *
  generalize hs1 : tx ++ [62] = s1 at *
  clear hs1
  generalize hs2 : 91 :: s1 = s2 at *
  clear hs2
  go_enter Tryz.func51, Tryz.ntmps51
  go_wp2_with fail
  refine (HC.out _).mono ?_
  rintro e w1 ⟨rfl, hb1⟩
  go_wp2_with fail
  refine (HU.out _).mono ?_
  rintro e w2 ⟨rfl, hb2⟩
  replace hb1 := hb1.trans (hb2.mono hb1.size)
  clear hb2
  go_wp2_with fail
  refine (HSP.out _ ((hb1.cell (cell_lt HM.out)).trans HM.out)).mono ?_
  rintro e w3 ⟨b, rfl, hww, hb2⟩
  replace hb1 := hb1.trans (hb2.mono hb1.size)
  clear hb2
  have HW := Lib.hid hww
  clear hww
  go_wp2_with fail
  refine (HCW.out b _ HW.out).mono ?_
  rintro e w4 ⟨rfl, hb2⟩
  replace hb1 := hb1.trans (hb2.mono hb1.size)
  replace HW := Lib.hid (HW.out.below hb2)
  clear hb2
  go_wp2_with fail
  go_loopw [2, 3, 49] (fun o kt i wr => ∃ k : Nat, k ≤ x.length ∧ kt = .bool true ∧ i = .int .i64 k ∧ wr.ownsRow w4.heap.size 3 1 o k (is (x.take k)) ∧ Below w4.heap.size w4 wr) (fun _ _ i _ => x.length - (intOf i).toNat)
  case atStart => exact ⟨0, Nat.zero_le _, rfl, rfl, World.ownsRow_nil _ _ _ _, Below.refl _ _⟩
  case round =>
    obtain ⟨k, hk, rfl, rfl, hown, hbw⟩ := hrel
    have HO := Lib.hid hown
    clear hown
    by_cases hlt : k < x.length
    · have hc := (HW.out.below hbw).2 k hlt
      have HAk := Lib.hid (fun W => HA.out k hlt W)
      have E3 : Box (x.take (k + 1) = x.take k ++ [x[k]?.getD 0]) := ⟨by rw [List.take_succ_eq_append_getElem hlt, List.getElem?_eq_getElem hlt]; rfl⟩
      generalize x[k]?.getD 0 = z at *
      generalize itoa z = l at *
      go_wp2_with fail
      refine (HAk.out _).mono ?_
      rintro e w5 ⟨rfl, hb5⟩
      have hown2 := own_below HO.out hb5
      have hw45 := hbw.trans (hb5.mono hbw.size)
      go_wp2_with (at_builtin; refine wpList_append_own _ rfl _ _ _ rfl w4.heap.size 3 i0 (.int .i64 0) 1 8 Tryz.underlying24 hi0 hz0 hz1 hz2 rfl (by decide) _ _ _ rfl (hown2.alloc _) ⟨w5.heap.size, 0, Option.none⟩ 1 1 [_] rfl rfl (cell_one_new _ _ _) (by intro u hu; simp at hu; subst hu; rfl) (by unfold maxLen; omega) (by omega) (by have := hw45.size; simp; omega) ?_; intro v3 w3 hown3 hg3 _)
      go_wp2
      go_roundw
      case rel =>
        refine ⟨k + 1, by omega, rfl, by go_num, ?_, ?_⟩
        · rw [E3.out, is_append]; exact hown3
        · exact (hw45.alloc (by have := hw45.size; omega) _).grown hg3 (by have := hw45.size; simp; omega) (fun k hk => (HO.out.lt k hk).1)
      case measure => simp [intOf]; omega
    · obtain rfl : k = x.length := by omega
      have hex : wr.ownsRow w4.heap.size 3 1 u2 x.length (is x) := by have := HO.out; rw [List.take_of_length_le (Nat.le_refl _)] at this; exact this
      have hri := IsRow.of_own hex
      have hri' := hri
      obtain ⟨AX, cx, rfl, _⟩ := hri'
      have HRI := Lib.hid hri
      clear hex hri
      go_wp2_with fail
      refine (HRC.out _ _ HRI.out).mono ?_
      rintro e w6 ⟨rfl, hb6⟩
      go_wp2_with fail
      go_ret3
      exact ⟨⟨AX, cx, rfl, HRI.out.lift hb6⟩, (hb1.trans (hbw.mono hb1.size)).trans (hb6.mono (Nat.le_trans hb1.size hbw.size))⟩

end Go.Proofs.YtkoemgemnklmdaaGreatDoor
