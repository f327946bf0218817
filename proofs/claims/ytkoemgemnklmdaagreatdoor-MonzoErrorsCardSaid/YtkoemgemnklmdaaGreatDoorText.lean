/- decimal: text. -/
import Derived.Test.YtkoemgemnklmdaaGreatDoorCut
import Derived.Test.YtkoemgemnklmdaaGreatDoorShelf
import Derived.Lib.OwnBridge
namespace Go.Proofs.YtkoemgemnklmdaaGreatDoor
open Go.RowKit Go.Lib

/-- The digits that are written after i pieces of x: the least significant first. -/
def txt (x i : Nat) : List UInt8 := if i < (pcs x).length then lowsAll ((pcs x).take i) else (decDigits x).reverse

/-- The round of a piece a, k digits written, d left. -/
structure TxtIn (x i a k d : Nat) (out : List UInt8) : Prop where
  out : out = lowsAll ((pcs x).take i) ++ lows k a
  left : d = a / 10 ^ k
  le : k ≤ 9
  more : k = 0 ∨ i + 1 < (pcs x).length ∨ 0 < a / 10 ^ (k - 1)

theorem txt_in_start (x i a : Nat) (h : i < (pcs x).length) : TxtIn x i a 0 a (txt x i) :=
  ⟨by unfold txt; rw [if_pos h]; simp [lows], by simp, by omega, .inl rfl⟩

theorem txt_in_step {x i a k d : Nat} {out : List UInt8} (h : TxtIn x i a k d out) (hk : k < 9) (hc : i + 1 < (pcs x).length ∨ 0 < d) : TxtIn x i a (k + 1) (d / 10) (out ++ [UInt8.ofNat (48 + d % 10)]) := by
  refine ⟨?_, ?_, by omega, ?_⟩
  · rw [lows_snoc, h.out, h.left, List.append_assoc]
  · rw [h.left, Nat.div_div_eq_div_mul, Nat.pow_succ]
  · rcases hc with hc | hc
    · exact .inr (.inl hc)
    · rw [h.left] at hc
      exact .inr (.inr (by simpa using hc))

theorem getLast_pcs (x : Nat) (h : 0 < x) : 0 < (pcs x)[(pcs x).length - 1]?.getD 0 := by
  induction x using Nat.strongRecOn with
  | _ x ih =>
    rw [pcs_pos h]
    rcases Nat.eq_zero_or_pos (x / 1000000000) with h0 | h0
    · rw [h0, pcs_zero]; simp; omega
    · have := ih _ (by omega) h0
      rw [pcs_pos h0] at this ⊢
      simpa using this

theorem txt_in_end {x i a k d : Nat} {out : List UInt8} (h : TxtIn x i a k d out) (hx : 0 < x) (ha : (pcs x)[i]?.getD 0 = a) (hi : i < (pcs x).length)
    (hc : k = 9 ∨ ¬ (i + 1 < (pcs x).length) ∧ d = 0) : out = txt x (i + 1) := by
  have hal : a < 1000000000 := by rw [← ha]; exact pcs_getD (pcs_lt x) i
  have htk : (pcs x).take (i + 1) = (pcs x).take i ++ [a] := by
    rw [List.take_succ_eq_append_getElem hi, ← ha, List.getElem?_eq_getElem hi]; rfl
  unfold txt
  by_cases hl : i + 1 < (pcs x).length
  · rw [if_pos hl, htk]
    have hk : k = 9 := by rcases hc with hc | ⟨hc, _⟩ <;> omega
    subst hk
    rw [h.out]
    simp [lowsAll]
  · rw [if_neg hl]
    have ha0 : 0 < a := by
      have := getLast_pcs x hx
      rw [show (pcs x).length - 1 = i by omega, ha] at this
      exact this
    have hd : a / 10 ^ k = 0 := by
      rcases hc with hc | ⟨_, hc⟩
      · subst hc; exact Nat.div_eq_of_lt hal
      · rw [← h.left]; exact hc
    have hlt : a < 10 ^ k := by
      rcases Nat.lt_or_ge a (10 ^ k) with h1 | h1
      · exact h1
      · have := Nat.div_pos h1 (Nat.pow_pos (by omega)); omega
    have hge : k = 0 ∨ 10 ^ (k - 1) ≤ a := by
      rcases h.more with h1 | h1 | h1
      · exact .inl h1
      · omega
      · right
        rcases Nat.lt_or_ge a (10 ^ (k - 1)) with h2 | h2
        · rw [Nat.div_eq_of_lt h2] at h1; omega
        · exact h2
    have e1 := dec_eq_lows a k hlt hge ha0
    have e2 := dec_pieces ((pcs x).take i) a (fun y hy => pcs_lt x y (List.mem_of_mem_take hy)) ha0
    have e3 : pv ((pcs x).take i) + 1000000000 ^ ((pcs x).take i).length * a = x := by
      have := pv_append ((pcs x).take i) [a]
      rw [← htk, List.take_of_length_le (by omega), pv_pcs] at this
      simpa [pv] using this.symm
    rw [e3, e1] at e2
    rw [h.out, e2]
    simp

theorem txt_end (x : Nat) : txt x (pcs x).length = (decDigits x).reverse := by unfold txt; rw [if_neg (by omega)]
theorem txt_start (x : Nat) (h : 0 < x) : txt x 0 = [] := by
  unfold txt
  rw [if_pos (by rw [pcs_pos h]; simp)]
  simp [lowsAll]

theorem lowsAll_length (l : List Nat) : (lowsAll l).length = 9 * l.length := by
  induction l with
  | nil => rfl
  | cons a l ih => unfold lowsAll at *; rw [List.flatMap_cons, List.length_append, ih, lows_length, List.length_cons]; omega

theorem ret_str {l m : List UInt8} (h : l = m) : Ending.returned (.string ⟨l.toArray⟩) = .returned (.string ⟨m.toArray⟩) := by rw [h]
theorem bs_snoc (l : List UInt8) (e : Nat) (z : Int) (he : e < 10) (hz : z = 48 + (e : Int)) : bs (l ++ [UInt8.ofNat (48 + e)]) = bs l ++ [.int .u8 z] := by
  subst hz
  rw [bs_append]
  congr 1
  unfold bs
  rw [List.map_cons, ofNat_dig he]
  simp

theorem Tryz.info_u8 : (Tryz.prog.info? 5).map (fun i => (i.zero, i.size, i.bytes)) = some (some (.int .u8 0), 1, 1) := by kernel_rfl

set_option maxRecDepth 100000 in
set_option maxHeartbeats 1000000 in
theorem text_any (A : Option Addr) (n c x : Nat) (w : World) (hr : Row w w.heap.size 1 A n (us (pcs x))) (hn : n ≤ 1000000) :
    Calls Tryz.prog 69 #[.slice A n c] w fun e w' => e = .returned (.string ⟨(decDigits x).toArray⟩) ∧ Below w.heap.size w w' := by
  obtain ⟨i0, hi0, hz0, hz1, hz2⟩ := info_parts Tryz.info_u8
  have hl : (pcs x).length = n := by have := hr.len; rw [us_length] at this; omega
  have HL := Lib.hid hl
  clear hl
  rcases Nat.eq_zero_or_pos x with h0 | h0
  · subst h0
    obtain rfl : n = 0 := by rw [← HL.out, pcs_zero]; rfl
    go_enter Tryz.func69, Tryz.ntmps69
    go_wp2
    go_ret
    exact ⟨by rw [dec_small (by omega)]; rfl, Below.refl _ _⟩
  · have hn0 : 0 < n := by rw [← HL.out, pcs_pos h0]; simp
    have hne : ((n : Int) == 0) = false := by simp; omega
    go_enter Tryz.func69, Tryz.ntmps69
    go_wp2_with (at_make; refine wpList_make_own _ rfl _ _ _ rfl w.heap.size 5 i0 (.int .u8 0) 1 Tryz.underlying134 hi0 hz0 hz1 .i64 .i64 _ (9 * n) rfl rfl (by omega) (by rw [hz2]; omega) (by unfold maxLen; omega) (Nat.le_refl _) ?_; intro w1 hown hg1)
    have hb1 : Below w.heap.size w w1 := (Below.refl _ _).grown hg1 (Nat.le_refl _) (by simp)
    clear hg1
    go_loopw [3, 16] (fun v i wr => ∃ k : Nat, k ≤ n ∧ i = .int .i64 k ∧ wr.ownsRow w.heap.size 5 1 v (txt x k).length (bs (txt x k)) ∧ v ≠ .slice Option.none 0 0 ∧ Below w.heap.size w wr) (fun _ i _ => n - (intOf i).toNat)
    case atStart => exact ⟨0, Nat.zero_le _, rfl, by rw [txt_start x h0]; exact hown, by simp, hb1⟩
    case round =>
      clear hown hb1
      obtain ⟨k, hk, rfl, hown, hvn, hbw⟩ := hrel
      by_cases hlt : k < n
      · obtain ⟨ad, rfl, _, hca⟩ := (hr.below hbw (Nat.le_refl _)).u_at hlt
        have hal : (pcs x)[k]?.getD 0 < 1000000000 := pcs_getD (pcs_lt x) k
        generalize ha : (pcs x)[k]?.getD 0 = a at hca hal
        have HA := Lib.hid ha
        clear ha
        have HN := Lib.hid hown
        clear hown
        go_wp2
        obtain ⟨wo, rfl⟩ : ∃ wo : World, wo = wr := ⟨_, rfl⟩
        have hst := txt_in_start x k a (by rw [HL.out]; exact hlt)
        go_loopw [3, 5, 6] (fun v d j wr => ∃ (q d' : Nat) (out : List UInt8), j = .int .i64 q ∧ d = .int .u64 d' ∧ TxtIn x k a q d' out ∧ wr.ownsRow w.heap.size 5 1 v out.length (bs out) ∧ v ≠ .slice Option.none 0 0 ∧ Below w.heap.size w wr) (fun _ _ j _ => 9 - (intOf j).toNat)
        case atStart => exact ⟨0, a, _, rfl, rfl, hst, HN.out, hvn, hbw⟩
        case round =>
          clear hst HN hvn hbw hca
          obtain ⟨q, d', out, rfl, rfl, hin, hown, hvn, hbw⟩ := hrel
          have hq9 := hin.le
          have hda : d' ≤ a := by rw [hin.left]; exact Nat.div_le_self _ _
          have hol : out.length ≤ 9 * n + 9 := by
            rw [hin.out, List.length_append, lowsAll_length, lows_length, List.length_take]
            omega
          by_cases hcnd : q < 9 ∧ (k + 1 < n ∨ 0 < d')
          · obtain ⟨hq, hc2⟩ := hcnd
            have HST := Lib.hid (txt_in_step hin hq (by rw [HL.out]; exact hc2))
            by_cases hk1 : k + 1 < n
            all_goals
              go_wp2_with (at_builtin; refine wpList_append_own _ rfl _ _ _ rfl w.heap.size 5 i0 (.int .u8 0) 1 1 Tryz.underlying134 hi0 hz0 hz1 hz2 rfl (by decide) _ _ _ rfl (hown.alloc _) ⟨wr.heap.size, 0, Option.none⟩ 1 1 [_] rfl rfl (cell_one_new _ _ _) (by intro u hu; simp at hu; subst hu; rfl) (by unfold maxLen; omega) (by omega) (by have := hbw.size; simp; omega) ?_; intro v3 w3 hown3 hg3 _)
              go_wp2
              go_roundw
              case rel =>
                refine ⟨q + 1, d' / 10, _, by go_num, by go_num, HST.out, ?_, ?_, ?_⟩
                · rw [List.length_append, bs_snoc _ _ _ (by omega) rfl]; exact hown3
                · exact own_ne hown3 (by omega)
                · exact (hbw.alloc hbw.size _).grown hg3 (by have := hbw.size; simp; omega) (fun k hk => (hown.lt k hk).1)
              case measure => simp [intOf]; omega
          · have HE := Lib.hid (txt_in_end hin h0 HA.out (by rw [HL.out]; exact hlt) (by rw [HL.out]; omega))
            by_cases hq : q < 9
            all_goals
              go_wp2
              go_roundw
              case rel => exact ⟨k + 1, by omega, by go_num, by rw [← HE.out]; exact hown, hvn, hbw⟩
              case measure => simp [intOf]; omega
      · obtain rfl : k = n := by omega
        obtain ⟨zs, hzs⟩ : ∃ zs, zs = (decDigits x).reverse := ⟨_, rfl⟩
        have hown2 : wr.ownsRow w.heap.size 5 1 u3 zs.length (zs.map fun b : UInt8 => Value.int .u8 ((b.toNat : Nat) : Int)) := by
          rw [← HL.out, txt_end, ← hzs] at hown
          exact hown
        have HZ : Hid (zs.reverse = decDigits x) := by rw [hzs, List.reverse_reverse]; exact rfl
        have hzp : 0 < zs.length := by rw [hzs, List.length_reverse, dec_length]; exact nDigits_pos x
        clear hzs hown
        obtain ⟨g, cap, rfl, hg, hglt, hnc, hcm, _, hH⟩ := Lib.holds_of_ownsRow hown2 hvn
        unfold maxLen at hcm
        have HO := Lib.hid hown2
        clear hown2
        have HC := Lib.hid (Tryz.slices_Reverse_f110 (fun b : UInt8 => Value.int .u8 ((b.toNat : Nat) : Int)) (fun _ => rfl) g 0 cap zs wr hH (by omega))
        clear hH
        have HB : Hid (∀ m, Row (Sort.putRow (fun b : UInt8 => Value.int .u8 ((b.toNat : Nat) : Int)) (Sort.ahead wr m) g 0 zs.reverse.toArray) wr.heap.size 1 (some ⟨g, 0, Option.none⟩) zs.length (bs zs.reverse)) := by
          intro m
          have h := Lib.ownsRow_putRow (q := m) (ys := zs.reverse) HO.out (by simp) (Nat.le_refl _)
          rw [List.take_of_length_le (by simp)] at h
          obtain ⟨A, c', e1, _, _, hrow⟩ := Row.of_own h
          injection e1 with e1 _ e3
          subst e1
          rw [show (Sort.putRow (fun b : UInt8 => Value.int .u8 ((b.toNat : Nat) : Int)) (Sort.ahead wr m) g 0 zs.reverse.toArray).heap.size = wr.heap.size by simp [Sort.ahead]] at hrow
          exact hrow
        have HBW : Hid (∀ m, Below w.heap.size w (Sort.putRow (fun b : UInt8 => Value.int .u8 ((b.toNat : Nat) : Int)) (Sort.ahead wr m) g 0 zs.reverse.toArray)) := fun m => Lib.below_putRow hbw hg
        go_wp2_with (first | (go_at_call 110; refine HC.out.mono ?_; rintro e w' ⟨rfl, m, hw'⟩; have hrow := HB.out m; have hbw2 := HBW.out m; rw [← hw'] at hrow hbw2; clear hw') | (refine wpList_string _ rfl _ _ _ rfl 5 Tryz.underlying134 Tryz.underlying5 Tryz.underlying36 _ _ _ _ zs.reverse rfl hrow hzp ?_))
        go_ret
        exact ⟨ret_str HZ.out, hbw2⟩

end Go.Proofs.YtkoemgemnklmdaaGreatDoor
