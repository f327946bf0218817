/- strings.IndexRune of "/." and a rune that is no ASCII; strings.IndexAny of any text and "/.". -/
import Derived.Test.YtagfnnongamneaaGreatDoorFAnyG
import Derived.Laws.RangeAny
import Derived.Laws.Runes
import Derived.WalkMore
import Derived.Deep.RegionHeld3
namespace Go.Proofs.YtagfnnongamneaaGreatDoor
open Go.RowKit Go.Lib

set_option maxRecDepth 100000 in
set_option maxHeartbeats 1000000 in
theorem indexRune_error (w : World) : Calls Tryz.prog 126 #[.string ⟨#[47, 46]⟩, .int .i32 65533] w fun e w' => e = .returned (.int .i64 (-1)) ∧ Below w.heap.size w w' := by
  go_enter Tryz.func126, Tryz.ntmps126
  go_wp2_with fail
  go_loopg [5, 6] 2 (fun g _ _ wx => ∃ i : Nat, i + g = 2 ∧ wx = w.iter ⟨#[47, 46]⟩ i)
  case atStart => exact ⟨0, rfl, rfl⟩
  case round =>
    obtain ⟨i, hig, rfl⟩ := hrel
    rcases (show (i = 2 ∧ gk = 0) ∨ (i = 1 ∧ gk = 1) ∨ (i = 0 ∧ gk = 2) by omega) with ⟨rfl, rfl⟩ | ⟨rfl, rfl⟩ | ⟨rfl, rfl⟩
    · have hnx := fun ty => run_next_end (P := Tryz.prog) w ⟨#[47, 46]⟩ 2 ty (by decide)
      go_wp2
      go_ret
      exact ⟨rfl, (Below.refl _ _).alloc (Nat.le_refl _) _⟩
    · have hnx := fun ty => run_next_ascii (P := Tryz.prog) w ⟨#[47, 46]⟩ 1 ty (by decide) (by decide)
      go_wp2
      go_roundg 0
      case measure => omega
      case rel => exact ⟨2, rfl, rfl⟩
    · have hnx := fun ty => run_next_ascii (P := Tryz.prog) w ⟨#[47, 46]⟩ 0 ty (by decide) (by decide)
      go_wp2
      go_roundg 1
      case measure => omega
      case rel => exact ⟨1, rfl, rfl⟩

set_option maxRecDepth 100000 in
set_option maxHeartbeats 1000000 in
theorem indexRune_high (r : Int) (w : World) (h128 : 128 ≤ r) (hne : r ≠ 65533) (hle : r ≤ 2147483647) : Calls Tryz.prog 126 #[.string ⟨#[47, 46]⟩, .int .i32 r] w fun e w' => e = .returned (.int .i64 (-1)) ∧ Below w.heap.size w w' := by
  have HV := Lib.hid (fun W => validRune_any r W)
  have hq : (r == 65533) = false := by simpa using hne
  have hlt : ¬ r < 128 := by omega
  cases hv : Lib.validRune r with
  | false =>
    rw [hv] at HV
    clear hv
    go_enter Tryz.func126, Tryz.ntmps126
    go_wp2_with fail
    refine (HV.out _).mono ?_
    rintro e w1 ⟨rfl, rfl⟩
    go_wp2_with fail
    go_ret
    exact ⟨rfl, Below.refl _ _⟩
  | true =>
    rw [hv] at HV
    obtain ⟨hz1, hz2, hz3⟩ := encode_facts r (by rw [validRune_eq]; exact hv) h128
    obtain ⟨rs, hrs⟩ : ∃ rs, Utf8.encode r = rs := ⟨_, rfl⟩
    rw [hrs] at hz1 hz2
    have hlast : rs.size = 2 → ∀ h, 128 ≤ (rs[1]'h).toNat := by
      intro hz h
      subst hrs
      have h3 := hz3 (by omega)
      have e : ∀ (k : Nat) (hk : k < (Utf8.encode r).size), k = 1 → ((Utf8.encode r)[k]'hk).toNat = ((Utf8.encode r)[1]'h).toNat := by intro k hk hk1; subst hk1; rfl
      rw [e _ _ (by omega)] at h3
      exact h3
    clear hv hz3
    rcases (show rs.size = 2 ∨ rs.size = 3 ∨ rs.size = 4 by omega) with hz | hz | hz
    · obtain ⟨bt, hbt, hb128⟩ : ∃ bt : UInt8, (∀ h, rs[1]'h = bt) ∧ 128 ≤ bt.toNat := ⟨rs[1]'(by omega), fun _ => rfl, hlast hz _⟩
      clear hlast hz1 hz2
      have HI : Hid (∀ W, Calls Tryz.prog 47 #[.string ByteArray.empty, .int .u8 bt.toNat] W fun e w' => e = .returned (.int .i64 (-1)) ∧ W = w') := Lib.hid (fun W => indexByte_any [] bt W)
      have hw2 : IntKind.i64.wrap 2 = 2 := by decide
      have hbne : ((46 : Int) != (bt.toNat : Int)) = true := by rw [bne_iff_ne]; omega
      have hxe : (⟨#[47, 46]⟩ : ByteArray).extract 2 2 = ⟨#[]⟩ := rfl
      have hx46 : ∀ h, (⟨#[47, 46]⟩ : ByteArray)[1]'h = 46 := fun _ => rfl
      have hbne2 : (((46 : UInt8).toNat : Int) != (bt.toNat : Int)) = true := hbne
      go_enter Tryz.func126, Tryz.ntmps126
      go_wp2_with fail
      refine (HV.out _).mono ?_
      rintro e w1 ⟨rfl, rfl⟩
      go_wp2_with fail
      go_step3
      go_wp2_with fail
      go_loopw [9] (fun i wr => i = .int .i64 1 ∧ wr = w) (fun _ _ => 0)
      case atStart => exact ⟨by simp, rfl⟩
      case round =>
        obtain ⟨rfl, rfl⟩ := hrel
        go_wp2_with fail
        go_step3
        go_wp2_with fail
        go_region
        go_wp2_with fail
        go_region_held3 (fun w' => True) (first | trivial) ((first | (go_at_call 47; (with_reducible refine (HI.out _).mono ?_); rintro e wd3 ⟨rfl, rfl⟩)))
        go_wp2_with fail
        rw [Exit.noGoto_ret]
        go_wp2
        rw [Exit.noGoto_ret]
        go_ret
        exact ⟨rfl, ⟨rfl, rfl, rfl, Nat.le_refl _, fun _ _ => rfl⟩⟩
    · clear hlast hz1 hz2
      go_enter Tryz.func126, Tryz.ntmps126
      go_wp2_with fail
      refine (HV.out _).mono ?_
      rintro e w1 ⟨rfl, rfl⟩
      go_wp2_with fail
      go_step3
      go_wp2_with fail
      go_loopw [9] (fun i wr => i = .int .i64 2 ∧ wr = w) (fun _ _ => 0)
      case atStart => exact ⟨by simp, rfl⟩
      case round =>
        obtain ⟨rfl, rfl⟩ := hrel
        go_wp2_with fail
        rw [Exit.noGoto_ret]
        go_ret
        exact ⟨rfl, Below.refl _ _⟩
    · clear hlast hz1 hz2
      go_enter Tryz.func126, Tryz.ntmps126
      go_wp2_with fail
      refine (HV.out _).mono ?_
      rintro e w1 ⟨rfl, rfl⟩
      go_wp2_with fail
      go_step3
      go_wp2_with fail
      go_loopw [9] (fun i wr => i = .int .i64 3 ∧ wr = w) (fun _ _ => 0)
      case atStart => exact ⟨by simp, rfl⟩
      case round =>
        obtain ⟨rfl, rfl⟩ := hrel
        go_wp2_with fail
        rw [Exit.noGoto_ret]
        go_ret
        exact ⟨rfl, Below.refl _ _⟩

theorem indexRune_high_or (r : Int) (w : World) (h128 : 128 ≤ r) (hle : r ≤ 2147483647) : Calls Tryz.prog 126 #[.string ⟨#[47, 46]⟩, .int .i32 r] w fun e w' => e = .returned (.int .i64 (-1)) ∧ Below w.heap.size w w' := by
  by_cases h : r = 65533
  · subst h; exact indexRune_error w
  · exact indexRune_high r w h128 h hle

theorem ib2 (c : UInt8) : Lib.indexByte [47, 46] c = if c = 47 then 0 else if c = 46 then 1 else -1 := by
  by_cases h1 : c = 47
  · subst h1; rfl
  · by_cases h2 : c = 46
    · subst h2; rfl
    · have e1 : ((47 : UInt8) == c) = false := by simpa using Ne.symm h1
      have e2 : ((46 : UInt8) == c) = false := by simpa using Ne.symm h2
      rw [if_neg h1, if_neg h2]
      simp [Lib.indexByte, e1, e2]

/-- A step of a range over a text whose iterator lies in block b. -/
def setIt (W : World) (b : Nat) (s : ByteArray) (p : Nat) : World := { W with heap := W.heap.setIfInBounds b (.stringIter s p) }
theorem next_gen {P : Program} {W : World} {b : Nat} {s : ByteArray} {pos : Nat} (hb : W.heap[b]? = some (.stringIter s pos)) (h : pos < s.size) (ty : TypeId) :
    (Instr.next (.pointer (some ⟨b, 0, Option.none⟩)) true ty).run P W = .ok (.tuple #[.bool true, .int .i64 pos, .int .i32 (Utf8.decode s pos).1]) (setIt W b s (pos + (Utf8.decode s pos).2)) := by
  simp only [Instr.next, getObj, setObj, Sem.run_bind, Sem.run, hb, Result.andThen, h, if_true]
  simp [goInt, setIt]
theorem next_gen_end {P : Program} {W : World} {b : Nat} {s : ByteArray} {pos : Nat} (hb : W.heap[b]? = some (.stringIter s pos)) (h : ¬ pos < s.size) (ty : TypeId) :
    (Instr.next (.pointer (some ⟨b, 0, Option.none⟩)) true ty).run P W = .ok (.tuple #[.bool false]) W := by
  simp [Instr.next, getObj, Sem.run, hb, h]
theorem setIt_block {W : World} {b : Nat} (hb : b < W.heap.size) (s : ByteArray) (p : Nat) : (setIt W b s p).heap[b]? = some (.stringIter s p) := by simp [setIt, hb]
theorem setIt_below {w W : World} {b : Nat} (h : Below w.heap.size w W) (hb : w.heap.size ≤ b) (s : ByteArray) (p : Nat) : Below w.heap.size w (setIt W b s p) := by
  refine ⟨h.os, h.tape, h.output, ?_, fun k hk => ?_⟩
  · show _ ≤ (W.heap.setIfInBounds b _).size
    rw [Array.size_setIfInBounds]; exact h.size
  · show (W.heap.setIfInBounds b _)[k]? = _
    rw [Array.getElem?_setIfInBounds_ne (by omega)]; exact h.block k hk

/-- The place that IndexAny finds in a short text: rune by rune. -/
def idxR (s : List UInt8) : Nat → Nat → Int
  | 0, _ => -1
  | g + 1, i => if i < s.length then (if (s[i]?.getD 0) = 47 ∨ (s[i]?.getD 0) = 46 then (i : Int) else if (s[i]?.getD 0).toNat < 128 then idxR s g (i + 1) else idxR s g (i + (Utf8.decode ⟨s.toArray⟩ i).2)) else -1
theorem idxR_place (s : List UInt8) : ∀ g i, idxR s g i = -1 ∨ ∃ j : Nat, idxR s g i = j ∧ j < s.length ∧ (s[j]?.getD 0 = 47 ∨ s[j]?.getD 0 = 46)
  | 0, _ => .inl rfl
  | g + 1, i => by
    rw [idxR]
    split
    · rename_i hi
      split
      · rename_i h; exact .inr ⟨i, rfl, hi, h⟩
      · split
        · exact idxR_place s g _
        · exact idxR_place s g _
    · exact .inl rfl

set_option maxRecDepth 100000 in
set_option maxHeartbeats 2000000 in
theorem indexAny_short (s : List UInt8) (w : World) (h8 : s.length ≤ 8) :
    Calls Tryz.prog 76 #[.string ⟨s.toArray⟩, .string ⟨#[47, 46]⟩] w fun e w' => e = .returned (.int .i64 (idxR s (s.length + 1) 0)) ∧ Below w.heap.size w w' := by
  have HU := Lib.hid (fun W => Tryz.strings_shouldUseASCIISet (s.length : Int) W)
  rw [decide_eq_false (by omega)] at HU
  have HA := Lib.hid (fun (r : Int) h0 h1 W => Tryz.strings_IndexRune_ascii ⟨#[47, 46]⟩ r W h0 h1)
  have HH := Lib.hid (fun (r : Int) h1 h2 W => indexRune_high_or r W h1 h2)
  obtain ⟨k0, HK⟩ : ∃ k0, Box (idxR s (s.length + 1) 0 = k0) := ⟨_, ⟨rfl⟩⟩
  rw [HK.out]
  go_enter Tryz.func76, Tryz.ntmps76
  go_wp2_with fail
  refine (HU.out _).mono ?_
  rintro e w1 ⟨rfl, hw1⟩
  rw [hw1]
  clear hw1 w1
  go_wp2_with fail
  go_loopg [9, 10] (s.length + 1) (fun g _ _ wx => ∃ i : Nat, s.length + 1 ≤ i + g ∧ Box (idxR s g i = k0) ∧ wx.heap[w.heap.size]? = some (.stringIter ⟨s.toArray⟩ i) ∧ Below w.heap.size w wx)
  case atStart => exact ⟨0, by omega, HK, World.iter_heap _ _ _, (Below.refl _ _).alloc (Nat.le_refl _) _⟩
  case round =>
    obtain ⟨i, hig, HI, hit, hbx⟩ := hrel
    have HIT := Lib.hid hit
    have HBX := Lib.hid hbx
    have hbs := (Array.getElem?_eq_some_iff.1 hit).1
    clear hit hbx
    by_cases hi : i < s.length
    · obtain ⟨g, rfl⟩ : ∃ g, gk = g + 1 := ⟨gk - 1, by omega⟩
      have hx := ba_at s i
      have hsz : i < (⟨s.toArray⟩ : ByteArray).size := by simpa [ByteArray.size] using hi
      by_cases ha : (s[i]?.getD 0).toNat < 128
      · have hnx := fun ty => next_gen (P := Tryz.prog) HIT.out hsz ty
        rw [decode_ascii ⟨s.toArray⟩ i hsz (by rw [hx]; exact ha), hx] at hnx
        have HB2 := Lib.hid (setIt_below HBX.out (Nat.le_refl _) ⟨s.toArray⟩ (i + 1))
        have HT2 := Lib.hid (setIt_block hbs ⟨s.toArray⟩ (i + 1))
        clear HIT HBX
        generalize setIt wr w.heap.size ⟨s.toArray⟩ (i + 1) = wn at *
        have HR := HA.out ((s[i]?.getD 0).toNat : Int) (by omega) (by omega)
        have hib := ib2 (s[i]?.getD 0)
        replace HR : Hid (∀ W, Calls Tryz.prog 126 #[.string ⟨#[47, 46]⟩, .int .i32 ((s[i]?.getD 0).toNat : Int)] W fun e w' => e = .returned (.int .i64 (if (s[i]?.getD 0) = 47 then 0 else if (s[i]?.getD 0) = 46 then 1 else -1)) ∧ w' = W) := Lib.hid (fun W => by
          have h := HR W
          rw [show ((s[i]?.getD 0).toNat : Int).toNat.toUInt8 = (s[i]?.getD 0) by simp] at h
          rw [← hib]
          exact h)
        have HS : Box (idxR s (g + 1) i = if (s[i]?.getD 0) = 47 ∨ (s[i]?.getD 0) = 46 then (i : Int) else idxR s g (i + 1)) := ⟨by rw [idxR, if_pos hi, if_pos ha]⟩
        rw [HI.out] at HS
        clear HA hib hx HH
        generalize s[i]?.getD 0 = c at *
        by_cases hc : c = 47 ∨ c = 46
        · have HE : Box (k0 = (i : Int)) := ⟨by rw [HS.out, if_pos hc]⟩
          have hge : ∃ z : Int, (if c = 47 then (0 : Int) else if c = 46 then 1 else -1) = z ∧ 0 ≤ z := by
            rcases hc with h | h
            · exact ⟨0, by rw [if_pos h], by omega⟩
            · exact ⟨1, by rw [if_neg (by rw [h]; decide), if_pos h], by omega⟩
          obtain ⟨z, hz, hz0⟩ := hge
          rw [hz] at HR
          clear hz hc HS
          go_wp2_with fail
          refine (HR.out _).mono ?_
          rintro e w2 ⟨rfl, rfl⟩
          go_wp2_with fail
          go_ret
          exact ⟨by rw [HE.out]; rfl, HB2.out⟩
        · rw [if_neg (fun h => hc (.inl h)), if_neg (fun h => hc (.inr h))] at HR
          have HE : Box (idxR s g (i + 1) = k0) := ⟨by rw [HS.out, if_neg hc]⟩
          clear hc HS
          go_wp2_with fail
          refine (HR.out _).mono ?_
          rintro e w2 ⟨rfl, rfl⟩
          go_wp2_with fail
          go_roundg g
          case measure => omega
          case rel => exact ⟨i + 1, by omega, HE, HT2.out, HB2.out⟩
      · have hnx := fun ty => next_gen (P := Tryz.prog) HIT.out hsz ty
        obtain ⟨hd1, hd2⟩ := decode_high ⟨s.toArray⟩ i hsz (by rw [hx]; omega)
        have hd3 := decode_le ⟨s.toArray⟩ i
        have HR := Lib.hid (fun W => HH.out ((Utf8.decode ⟨s.toArray⟩ i).1 : Nat) (by omega) (by omega) W)
        have HE : Box (idxR s g (i + (Utf8.decode ⟨s.toArray⟩ i).2) = k0) := ⟨by
          rw [← HI.out, idxR, if_pos hi, if_neg, if_neg ha]
          intro h
          rcases h with h | h
          · rw [h] at ha; exact absurd (show (47 : UInt8).toNat < 128 by decide) ha
          · rw [h] at ha; exact absurd (show (46 : UInt8).toNat < 128 by decide) ha⟩
        have HB2 := Lib.hid (setIt_below HBX.out (Nat.le_refl _) ⟨s.toArray⟩ (i + (Utf8.decode ⟨s.toArray⟩ i).2))
        have HT2 := Lib.hid (setIt_block hbs ⟨s.toArray⟩ (i + (Utf8.decode ⟨s.toArray⟩ i).2))
        clear HA HH hx ha HI hd3 HIT HBX
        generalize setIt wr w.heap.size ⟨s.toArray⟩ (i + (Utf8.decode ⟨s.toArray⟩ i).2) = wn at *
        generalize (Utf8.decode ⟨s.toArray⟩ i).1 = rr at *
        generalize (Utf8.decode ⟨s.toArray⟩ i).2 = wd at *
        have hbn : w.heap.size < wn.heap.size := (Array.getElem?_eq_some_iff.1 HT2.out).1
        go_wp2_with fail
        refine (HR.out _).mono ?_
        rintro e w2 ⟨rfl, hb2⟩
        replace HT2 := Lib.hid ((hb2.block _ hbn).trans HT2.out)
        replace HB2 := Lib.hid (HB2.out.trans (hb2.mono HB2.out.size))
        clear hb2
        go_wp2_with fail
        go_roundg g
        case measure => omega
        case rel => exact ⟨i + wd, by omega, HE, HT2.out, HB2.out⟩
    · have hnx := fun ty => next_gen_end (P := Tryz.prog) HIT.out (by simp [ByteArray.size]; omega) ty
      have HE : Box (k0 = -1) := ⟨by
        rw [← HI.out]
        cases gk with
        | zero => rfl
        | succ g => rw [idxR, if_neg hi]⟩
      go_wp2_with fail
      go_ret
      exact ⟨by rw [HE.out]; rfl, HBX.out⟩

end Go.Proofs.YtagfnnongamneaaGreatDoor
