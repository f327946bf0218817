import Derived.Test.YtaaeekahhhookaaGreatDoorGBCk
import Derived.Test.YtaaeekahhhookaaGreatDoorShelf
import Derived.Lib.OwnBridge
import Derived.Lib.AppendIntMem
import Derived.WalkSmall
import Derived.Deep.QuietTactic
import Derived.BigQuiet
import Derived.WideLaws
import Derived.RegionTactic
namespace Go.Proofs.YtaaeekahhhookaaGreatDoor
open Go.RowKit Go.Lib
def txt (x i : Nat) : List UInt8 := if i < (pcs x).length then lowsAll ((pcs x).take i) else (decDigits x).reverse
structure TxtIn (x i a k d : Nat) (out : List UInt8) : Prop where
 out : out = lowsAll ((pcs x).take i) ++ lows k a
 left : d = a / 10 ^ k
 le : k ≤ 9
 more : k = 0 ∨ i + 1 < (pcs x).length ∨ 0 < a / 10 ^ (k - 1)
theorem txt_in_start (x i a : Nat) (h : i < (pcs x).length) : TxtIn x i a 0 a (txt x i) :=
 ⟨by unfold txt; rw [if_pos h]; simp [lows], by simp, by omega, .inl rfl⟩
theorem txt_in_step {x i a k d : Nat} {out : List UInt8} (h : TxtIn x i a k d out) (hk : k < 9) (hc : i + 1 < (pcs x).length ∨ 0 < d) : TxtIn x i a (k + 1) (d / 10) (out ++ [UInt8.ofNat (48 + d % 10)]) := by
 refine ⟨?_, ?_, by omega, ?_⟩
 ·rw [lows_snoc, h.out, h.left, List.append_assoc]
 ·rw [h.left, Nat.div_div_eq_div_mul, Nat.pow_succ]
 ·rcases hc with hc | hc
  ·exact .inr (.inl hc)
  ·rw [h.left] at hc
   exact .inr (.inr (by simpa using hc))
theorem getLast_pcs (x : Nat) (h : 0 < x) : 0 < (pcs x)[(pcs x).length - 1]?.getD 0 := by
 induction x using Nat.strongRecOn with
 | _ x ih =>
   rw [pcs_pos h]
   rcases Nat.eq_zero_or_pos (x / 1000000000) with h0 | h0
   ·rw [h0, pcs_zero]; simp; omega
   ·have := ih _ (by omega) h0
    rw [pcs_pos h0] at this ⊢
    simpa using this
theorem txt_in_end {x i a k d : Nat} {out : List UInt8} (h : TxtIn x i a k d out) (hx : 0 < x) (ha : (pcs x)[i]?.getD 0 = a) (hi : i < (pcs x).length)
  (hc : k = 9 ∨ ¬ (i + 1 < (pcs x).length) ∧ d = 0) : out = txt x (i + 1) := by
 have hal : a < 1000000000 := by rw [← ha]; exact pcs_getD (pcs_lt x) i
 have htk : (pcs x).take (i + 1) = (pcs x).take i ++ [a] := by
  rw [List.take_succ_eq_append_getElem hi, ← ha, List.getElem?_eq_getElem hi]; rfl
 unfold txt
 by_cases hl : i + 1 < (pcs x).length
 ·rw [if_pos hl, htk]
  have hk : k = 9 := by rcases hc with hc | ⟨hc, _⟩ <;> omega
  subst hk
  rw [h.out]
  simp [lowsAll]
 ·rw [if_neg hl]
  have ha0 : 0 < a := by
   have := getLast_pcs x hx
   rw [show (pcs x).length - 1 = i by omega, ha] at this
   exact this
  have hd : a / 10 ^ k = 0 := by
   rcases hc with hc | ⟨_, hc⟩
   ·subst hc; exact Nat.div_eq_of_lt hal
   ·rw [← h.left]; exact hc
  have hlt : a < 10 ^ k := by
   rcases Nat.lt_or_ge a (10 ^ k) with h1 | h1
   ·exact h1
   ·have := Nat.div_pos h1 (Nat.pow_pos (by omega)); omega
  have hge : k = 0 ∨ 10 ^ (k - 1) ≤ a := by
   rcases h.more with h1 | h1 | h1
   ·exact .inl h1
   ·omega
   ·right
    rcases Nat.lt_or_ge a (10 ^ (k - 1)) with h2 | h2
    ·rw [Nat.div_eq_of_lt h2] at h1; omega
    ·exact h2
  have e1 := dec_eq_lows a k hlt hge ha0
  have e2 := dec_pieces ((pcs x).take i) a (fun y hy => pcs_lt x y (List.mem_of_mem_take hy)) ha0
  have e3 : pv ((pcs x).take i) + 1000000000 ^ ((pcs x).take i).length * a = x := by
   have := pv_append ((pcs x).take i) [a]
   rw [← htk, List.take_of_length_le (by omega), pv_pcs] at this
   simpa [pv] using this.symm
  rw [e3, e1] at e2
  rw [h.out, e2]
  simp
theorem txt_end (x : Nat) : txt x (pcs x).length = (decDigits x).reverse := by unfold txt; rw [if_neg (by omega)]
theorem txt_start (x : Nat) (h : 0 < x) : txt x 0 = [] := by
 unfold txt
 rw [if_pos (by rw [pcs_pos h]; simp)]
 simp [lowsAll]
theorem lowsAll_length (l : List Nat) : (lowsAll l).length = 9 * l.length := by
 induction l with
 | nil => rfl
 | cons a l ih => unfold lowsAll at *; rw [List.flatMap_cons, List.length_append, ih, lows_length, List.length_cons]; omega
theorem ret_str {l m : List UInt8} (h : l = m) : Ending.returned (.string ⟨l.toArray⟩) = .returned (.string ⟨m.toArray⟩) := by rw [h]
theorem bs_snoc (l : List UInt8) (e : Nat) (z : Int) (he : e < 10) (hz : z = 48 + (e : Int)) : bs (l ++ [UInt8.ofNat (48 + e)]) = bs l ++ [.int .u8 z] := by
 subst hz
 rw [bs_append]
 congr 1
 unfold bs
 rw [List.map_cons, ofNat_dig he]
 simp
theorem Tryz.info_u8 : (Tryz.prog.info? 5).map (fun i => (i.zero, i.size, i.bytes)) = some (some (.int .u8 0), 1, 1) := by kernel_rfl
set_option maxRecDepth 100000 in
set_option maxHeartbeats 1000000 in
theorem text_any (A : Option Addr) (n c x : Nat) (w : World) (hr : Row w w.heap.size 1 A n (us (pcs x))) (hn : n ≤ 1000000) :
  Calls Tryz.prog 199 #[.slice A n c] w fun e w' => e = .returned (.string ⟨(decDigits x).toArray⟩) ∧ Below w.heap.size w w' := by
 obtain ⟨i0, hi0, hz0, hz1, hz2⟩ := info_parts Tryz.info_u8
 have hl : (pcs x).length = n := by have := hr.len; rw [us_length] at this; omega
 have HL := Lib.hid hl
 clear hl
 rcases Nat.eq_zero_or_pos x with h0 | h0
 ·subst h0
  obtain rfl : n = 0 := by rw [← HL.out, pcs_zero]; rfl
  go_enter Tryz.func199, Tryz.ntmps199
  go_wp2
  go_ret
  exact ⟨by rw [dec_small (by omega)]; rfl, Below.refl _ _⟩
 ·have hn0 : 0 < n := by rw [← HL.out, pcs_pos h0]; simp
  have hne : ((n : Int) == 0) = false := by simp; omega
  go_enter Tryz.func199, Tryz.ntmps199
  go_wp2_with (at_make; refine wpList_make_own _ rfl _ _ _ rfl w.heap.size 5 i0 (.int .u8 0) 1 Tryz.underlying22 hi0 hz0 hz1 .i64 .i64 _ (9 * n) rfl rfl (by omega) (by rw [hz2]; omega) (by unfold maxLen; omega) (Nat.le_refl _) ?_; intro w1 hown hg1)
  have hb1 : Below w.heap.size w w1 := (Below.refl _ _).grown hg1 (Nat.le_refl _) (by simp)
  clear hg1
  go_loopw [3, 16] (fun v i wr => ∃ k : Nat, k ≤ n ∧ i = .int .i64 k ∧ wr.ownsRow w.heap.size 5 1 v (txt x k).length (bs (txt x k)) ∧ v ≠ .slice Option.none 0 0 ∧ Below w.heap.size w wr) (fun _ i _ => n - (intOf i).toNat)
  case atStart => exact ⟨0, Nat.zero_le _, rfl, by rw [txt_start x h0]; exact hown, by simp, hb1⟩
  case round =>
   clear hown hb1
   obtain ⟨k, hk, rfl, hown, hvn, hbw⟩ := hrel
   by_cases hlt : k < n
   ·obtain ⟨ad, rfl, _, hca⟩ := (hr.below hbw (Nat.le_refl _)).u_at hlt
    have hal : (pcs x)[k]?.getD 0 < 1000000000 := pcs_getD (pcs_lt x) k
    generalize ha : (pcs x)[k]?.getD 0 = a at hca hal
    have HA := Lib.hid ha
    clear ha
    have HN := Lib.hid hown
    clear hown
    go_wp2
    obtain ⟨wo, rfl⟩ : ∃ wo : World, wo = wr := ⟨_, rfl⟩
    have hst := txt_in_start x k a (by rw [HL.out]; exact hlt)
    go_loopw [3, 5, 6] (fun v d j wr => ∃ (q d' : Nat) (out : List UInt8), j = .int .i64 q ∧ d = .int .u64 d' ∧ TxtIn x k a q d' out ∧ wr.ownsRow w.heap.size 5 1 v out.length (bs out) ∧ v ≠ .slice Option.none 0 0 ∧ Below w.heap.size w wr) (fun _ _ j _ => 9 - (intOf j).toNat)
    case atStart => exact ⟨0, a, _, rfl, rfl, hst, HN.out, hvn, hbw⟩
    case round =>
     clear hst HN hvn hbw hca
     obtain ⟨q, d', out, rfl, rfl, hin, hown, hvn, hbw⟩ := hrel
     have hq9 := hin.le
     have hda : d' ≤ a := by rw [hin.left]; exact Nat.div_le_self _ _
     have hol : out.length ≤ 9 * n + 9 := by
      rw [hin.out, List.length_append, lowsAll_length, lows_length, List.length_take]
      omega
     by_cases hcnd : q < 9 ∧ (k + 1 < n ∨ 0 < d')
     ·obtain ⟨hq, hc2⟩ := hcnd
      have HST := Lib.hid (txt_in_step hin hq (by rw [HL.out]; exact hc2))
      by_cases hk1 : k + 1 < n
      all_goals
       go_wp2_with (at_builtin; refine wpList_append_own _ rfl _ _ _ rfl w.heap.size 5 i0 (.int .u8 0) 1 1 Tryz.underlying22 hi0 hz0 hz1 hz2 rfl (by decide) _ _ _ rfl (hown.alloc _) ⟨wr.heap.size, 0, Option.none⟩ 1 1 [_] rfl rfl (cell_one_new _ _ _) (by intro u hu; simp at hu; subst hu; rfl) (by unfold maxLen; omega) (by omega) (by have := hbw.size; simp; omega) ?_; intro v3 w3 hown3 hg3 _)
       go_wp2
       go_roundw
       case rel =>
        refine ⟨q + 1, d' / 10, _, by go_num, by go_num, HST.out, ?_, ?_, ?_⟩
        ·rw [List.length_append, bs_snoc _ _ _ (by omega) rfl]; exact hown3
        ·exact own_ne hown3 (by omega)
        ·exact (hbw.alloc hbw.size _).grown hg3 (by have := hbw.size; simp; omega) (fun k hk => (hown.lt k hk).1)
       case measure => simp [intOf]; omega
     ·have HE := Lib.hid (txt_in_end hin h0 HA.out (by rw [HL.out]; exact hlt) (by rw [HL.out]; omega))
      by_cases hq : q < 9
      all_goals
       go_wp2
       go_roundw
       case rel => exact ⟨k + 1, by omega, by go_num, by rw [← HE.out]; exact hown, hvn, hbw⟩
       case measure => simp [intOf]; omega
   ·obtain rfl : k = n := by omega
    obtain ⟨zs, hzs⟩ : ∃ zs, zs = (decDigits x).reverse := ⟨_, rfl⟩
    have hown2 : wr.ownsRow w.heap.size 5 1 u3 zs.length (zs.map fun b : UInt8 => Value.int .u8 ((b.toNat : Nat) : Int)) := by
     rw [← HL.out, txt_end, ← hzs] at hown
     exact hown
    have HZ : Hid (zs.reverse = decDigits x) := by rw [hzs, List.reverse_reverse]; exact rfl
    have hzp : 0 < zs.length := by rw [hzs, List.length_reverse, dec_length]; exact nDigits_pos x
    clear hzs hown
    obtain ⟨g, cap, rfl, hg, hglt, hnc, hcm, _, hH⟩ := Lib.holds_of_ownsRow hown2 hvn
    unfold maxLen at hcm
    have HO := Lib.hid hown2
    clear hown2
    have HC := Lib.hid (Tryz.slices_Reverse_f238 (fun b : UInt8 => Value.int .u8 ((b.toNat : Nat) : Int)) (fun _ => rfl) g 0 cap zs wr hH (by omega))
    clear hH
    have HB : Hid (∀ m, Row (Sort.putRow (fun b : UInt8 => Value.int .u8 ((b.toNat : Nat) : Int)) (Sort.ahead wr m) g 0 zs.reverse.toArray) wr.heap.size 1 (some ⟨g, 0, Option.none⟩) zs.length (bs zs.reverse)) := by
     intro m
     have h := Lib.ownsRow_putRow (q := m) (ys := zs.reverse) HO.out (by simp) (Nat.le_refl _)
     rw [List.take_of_length_le (by simp)] at h
     obtain ⟨A, c', e1, _, _, hrow⟩ := Row.of_own h
     injection e1 with e1 _ e3
     subst e1
     rw [show (Sort.putRow (fun b : UInt8 => Value.int .u8 ((b.toNat : Nat) : Int)) (Sort.ahead wr m) g 0 zs.reverse.toArray).heap.size = wr.heap.size by simp [Sort.ahead]] at hrow
     exact hrow
    have HBW : Hid (∀ m, Below w.heap.size w (Sort.putRow (fun b : UInt8 => Value.int .u8 ((b.toNat : Nat) : Int)) (Sort.ahead wr m) g 0 zs.reverse.toArray)) := fun m => Lib.below_putRow hbw hg
    go_wp2_with (first | (go_at_call 238; refine HC.out.mono ?_; rintro e w' ⟨rfl, m, hw'⟩; have hrow := HB.out m; have hbw2 := HBW.out m; rw [← hw'] at hrow hbw2; clear hw') | (refine wpList_string _ rfl _ _ _ rfl 5 Tryz.underlying22 Tryz.underlying5 Tryz.underlying49 _ _ _ _ zs.reverse rfl hrow hzp ?_))
    go_ret
    exact ⟨ret_str HZ.out, hbw2⟩
structure Std (w : World) : Prop where
 tab : Lib.TabIs Tryz.prog w "internal/strconv.uint64pow10" .u64 Lib.pow10Tab
 syn : ∃ te pe, w.cell? ⟨1, 0, Option.none⟩ = some (.iface te pe)
 rng : ∃ te pe, w.cell? ⟨2, 0, Option.none⟩ = some (.iface te pe)
 size : 3 < w.heap.size
theorem cell_lt {w : World} {a : Addr} {v : Value} (h : w.cell? a = some v) : a.block < w.heap.size := World.block_lt_of_cell? w a h
theorem Std.below {w w' : World} (h : Std w) {B : Nat} (hb : Below B w w') (hB : w.heap.size ≤ B) : Std w' := by
 refine ⟨var?_below hb (by kernel_rfl) (Nat.lt_of_lt_of_le h.size hB) h.tab, ?_, ?_, Nat.lt_of_lt_of_le h.size hb.size⟩
 ·obtain ⟨te, pe, hc⟩ := h.syn
  exact ⟨te, pe, by rw [hb.cell (Nat.lt_of_lt_of_le (cell_lt hc) hB)]; exact hc⟩
 ·obtain ⟨te, pe, hc⟩ := h.rng
  exact ⟨te, pe, by rw [hb.cell (Nat.lt_of_lt_of_le (cell_lt hc) hB)]; exact hc⟩
theorem Std.alloc {w : World} (h : Std w) (o : Obj) : Std (w.alloc o) := h.below ((Below.refl w.heap.size w).alloc (Nat.le_refl _) o) (Nat.le_refl _)
theorem Std.drewN {w : World} (h : Std w) (n : Nat) : Std (w.drewN n) := h.below (below_drewN (Below.refl w.heap.size w) n) (Nat.le_refl _)
theorem holds_zero0 (w : World) (T : TypeId) (nd : Nat) (hs : nd ≤ 24) : Sort.Holds (fun (b : UInt8) => Value.int .u8 (b.toNat : Int)) (w.alloc (.cells zeros24 T)) w.heap.size 0 (Array.replicate nd (0 : UInt8)) := fun j hj => by
 have hj' : j < nd := by simpa using hj
 refine ⟨?_, World.frozen?_alloc_new _ _ _ _⟩
 rw [World.cell?_alloc_new, zeros24_at _ (by omega), getElem!_pos _ j hj]
 simp
theorem nDigits_le20 {u : Nat} (h : u < 18446744073709551616) : nDigits u ≤ 20 := by
 have : nDigits u ≤ nDigits 18446744073709551615 := nDigits_mono (by omega)
 have h2 : nDigits 18446744073709551615 = 20 := nDigits_unique 19 _ (by decide) (by decide)
 omega
set_option maxHeartbeats 1000000 in
theorem formatUint_any (u : Nat) (w : World) (hu64 : u < 18446744073709551616) (hS : Std w) :
  Calls Tryz.prog 263 #[.int .u64 u, .int .i64 10] w fun e w' => e = .returned (.string ⟨(decDigits u).toArray⟩) ∧ Below w.heap.size w w' := by
 have htab := hS.tab
 clear hS
 by_cases h100 : u < 100
 ·clear htab
  go_enter Tryz.func263, Tryz.ntmps263
  go_wp2_with (go_at_call 228; refine (Tryz.internal_strconv_small u h100 _).mono ?_; rintro e w' ⟨rfl, rfl⟩)
  go_ret
  exact ⟨rfl, Below.refl _ _⟩
 ·have hu1 : 1 ≤ u := by omega
  have hnd := nDigits_le20 hu64
  have hnd1 := nDigits_pos u
  have hal : Tryz.prog.arrayLen 287 = 24 := by kernel_rfl
  have hsl : ∀ W, (Instr.sliceAt 287 (.pointer (some ⟨w.heap.size, 0, Option.none⟩)) Option.none (some (.int .i64 ((nDigits u : Nat) : Int))) Option.none).run Tryz.prog W = .ok (.slice (some ⟨w.heap.size, 0, Option.none⟩) (nDigits u) 24) W := fun W => by
   rw [run_sliceAt_array_h W 287 ⟨w.heap.size, 0, Option.none⟩ (by kernel_rfl) .i64 ((nDigits u : Nat) : Int) (by omega) (by rw [hal]; omega)]
   go_simp
  have hH0 := holds_zero0 w 287 (nDigits u) (by omega)
  have hfmt := Tryz.internal_strconv_formatBase10 w.heap.size 0 24 u (Array.replicate (nDigits u) 0) (w.alloc (.cells zeros24 287)) hH0 (by rw [Array.size_replicate]; exact lt_pow_nDigits u) hu64 (by rw [Array.size_replicate]; omega)
  rw [Array.size_replicate] at hfmt
  have HH0 := Lib.hid hH0
  have HF := Lib.hid hfmt
  clear hH0 hal hfmt
  go_enter Tryz.func263, Tryz.ntmps263
  go_wp2_with (first | (go_at_call 229; refine (Tryz.internal_strconv_numDigits u hu1 hu64 _ (Lib.tabIs_alloc htab _)).mono ?_; rintro e w' ⟨rfl, rfl⟩))
  go_at_call 230
  refine HF.out.mono ?_
  rintro e w' ⟨rfl, k, v', dk, rfl, hF⟩
  have hcv : (convert 22 9 (.slice (some ⟨w.heap.size, 0, Option.none⟩) (nDigits u) 24)).run Tryz.prog ((Sort.putRow (fun (b : UInt8) => Value.int .u8 (b.toNat : Int)) (w.alloc (.cells zeros24 287)) w.heap.size 0 dk).drewN k) = .ok (.string ⟨(decDigits u).toArray⟩) ((Sort.putRow (fun (b : UInt8) => Value.int .u8 (b.toNat : Int)) (w.alloc (.cells zeros24 287)) w.heap.size 0 dk).drewN k) := by
   have h := run_convert_bytes_back (P := Tryz.prog) ((Sort.putRow (fun (b : UInt8) => Value.int .u8 (b.toNat : Int)) (w.alloc (.cells zeros24 287)) w.heap.size 0 dk).drewN k) 22 9 5 ⟨w.heap.size, 0, Option.none⟩ 24 (decDigits u) Tryz.underlying22 Tryz.underlying5 Tryz.underlying9 (fun j hj => by
    rw [Lib.row_is_numeral hF j hj, Lib.add_plain, World.cell?_drewN]
    exact Sort.cell?_putRow (fun (b : UInt8) => Value.int .u8 (b.toNat : Int)) _ w.heap.size 0 _ dk HH0.out (by rw [hF.size, Array.size_replicate]) j (by rw [hF.size]; rw [Lib.decDigits_length] at hj; exact hj))
   rw [Lib.decDigits_length] at h
   exact h
  go_wp2
  go_ret
  obtain ⟨os, eo⟩ := Lib.fin_at w (.cells zeros24 287) dk k 0
  refine ⟨rfl, ?_⟩
  rw [eo]
  exact Lib.below_grow _ w (Nat.le_refl _) k os
theorem itoa_nat (n : Nat) : itoa (n : Int) = decDigits n := by unfold itoa; rw [if_neg (by omega)]; rfl
theorem itoa_neg (n : Nat) (h : 0 < n) : itoa (-(n : Int)) = 45 :: decDigits n := by unfold itoa; rw [if_pos (by omega)]; congr 2; omega
theorem itoa_len_lt {z : Int} {k : Nat} (h : (itoa z).length ≤ k) : z.natAbs < 10 ^ k := by
 have hp : 10 ^ (decDigits z.natAbs).length ≤ 10 ^ k := by
  refine Nat.pow_le_pow_right (by omega) ?_
  unfold itoa at h
  split at h
  ·simp at h; omega
  ·rename_i hz
   rw [show z.toNat = z.natAbs by omega] at h
   exact h
 exact Nat.lt_of_lt_of_le (dec_lt_pow _) hp
theorem bytes_below' {w w' : World} {e : TypeId} (h : w' = w ∨ ∃ t, w' = Lib.bytesWorld w e t) : Below w.heap.size w w' := by
 rcases h with rfl | ⟨t, rfl⟩
 ·exact Below.refl _ _
 ·exact bytes_below w e t
theorem grow_below {w w' : World} (h : ∃ k os, w' = Sort.grow (w.drewN k) os) : Below w.heap.size w w' := by
 obtain ⟨k, os, rfl⟩ := h
 exact Lib.below_grow _ w (Nat.le_refl _) k os
theorem decOf_any (u : Nat) (w : World) (hu64 : u < 18446744073709551616) (hS : Std w) :
  Calls Tryz.prog 196 #[.int .u64 u] w fun e w' => e = .returned (.string ⟨(decDigits u).toArray⟩) ∧ Below w.heap.size w w' := by
 have HF := Lib.hid (formatUint_any u w hu64 hS)
 clear hS
 go_enter Tryz.func196, Tryz.ntmps196
 go_wp2_with (first | (go_at_call 263; refine HF.out.mono ?_; rintro e w' ⟨rfl, hb⟩) | (go_at_call 237; go_in))
 go_ret
 exact ⟨rfl, hb⟩
theorem whOf_any (z : Int) (w : World) (h0 : -9223372036854775808 ≤ z) (h1 : z ≤ 9223372036854775807) (hS : Std w) :
  Calls Tryz.prog 89 #[.int .i64 z] w fun e w' => e = .returned (.string ⟨(itoa z).toArray⟩) ∧ Below w.heap.size w w' := by
 have HF := Lib.hid (Tryz.strconv_Itoa z h0 h1 w hS.tab)
 clear hS
 go_enter Tryz.func89, Tryz.ntmps89
 go_wp2_with (go_at_call 101; refine HF.out.mono ?_; rintro e w' ⟨rfl, hw⟩; have hb := grow_below hw; clear hw)
 go_ret
 exact ⟨rfl, hb⟩
set_option maxHeartbeats 400000 in
theorem little_yes (z : Int) (m : Nat) (w : World) (hl : (itoa z).length ≤ m) (hm : m ≤ 18) :
  Calls Tryz.prog 134 #[.string ⟨(itoa z).toArray⟩, .int .i64 m] w fun e w' => e = .returned (.tuple #[.int .i64 z, .bool true]) ∧ Below w.heap.size w w' := by
 have hz := itoa_len_lt hl
 have h18 : 10 ^ m ≤ 10 ^ 18 := Nat.pow_le_pow_right (by omega) hm
 have ha := atoi_itoa z (by omega) (by omega)
 have HF := Lib.hid (Tryz.strconv_Atoi_ok ⟨(itoa z).toArray⟩ (by simp [ByteArray.size]; omega) z (by simpa using ha) w)
 clear hz h18 ha
 generalize itoa z = l at *
 go_enter Tryz.func134, Tryz.ntmps134
 go_wp2_with (go_at_call 183; refine HF.out.mono ?_; rintro e w' ⟨rfl, hw⟩; have hb := bytes_below' hw; clear hw)
 go_quiet (fail)
 go_wp2
 go_ret2
 exact ⟨rfl, below_drewN hb _⟩
set_option maxHeartbeats 400000 in
theorem little_no (l : List UInt8) (m : Nat) (w : World) (hl : m < l.length) (_hm : l.length ≤ 1000000) :
  Calls Tryz.prog 134 #[.string ⟨l.toArray⟩, .int .i64 m] w fun e w' => e = .returned (.tuple #[.int .i64 0, .bool false]) ∧ w = w' := by
 go_enter Tryz.func134, Tryz.ntmps134
 go_wp2
 go_ret2
 exact ⟨rfl, rfl⟩
theorem parseM_run (l : List UInt8) : ∀ acc, (∀ c ∈ l, isDig c) → dval acc l < 18446744073709551616 → parseUintM (2 ^ 64 - 1) acc l = .ok (dval acc l) := by
 induction l with
 | nil => intro acc _ _; rfl
 | cons c l ih =>
   intro acc hd hb
   have hc := hd c (by simp)
   have hc2 := dgv_lt hc
   simp only [dval_cons] at hb ⊢
   have hge := dval_ge l (10 * acc + dgv c)
   have hp : 1 ≤ 10 ^ l.length := Nat.one_le_pow _ _ (by omega)
   have hle : 10 * acc + dgv c ≤ (10 * acc + dgv c) * 10 ^ l.length := Nat.le_mul_of_pos_right _ (by omega)
   simp only [parseUintM]
   rw [← dgv_eq]
   rw [if_pos (show 48 ≤ c.toNat ∧ c.toNat ≤ 57 from hc), if_neg (by omega), if_neg (by omega), Nat.mul_comm acc 10]
   exact ih _ (fun x hx => hd x (by simp [hx])) hb
theorem parseUintB_dec {n : Nat} (h : n < 18446744073709551616) : parseUintB 64 (decDigits n) = .ok n := by
 unfold parseUintB
 rw [if_neg (dec_ne_nil n), parseM_run _ 0 (dec_dig n) (by rw [dval_dec]; exact h), dval_dec]
set_option maxHeartbeats 400000 in
theorem small_yes (n : Nat) (w : World) (h : n < 18446744073709551616) :
  Calls Tryz.prog 236 #[.string ⟨(decDigits n).toArray⟩] w fun e w' => e = .returned (.tuple #[.int .u64 n, .bool true]) ∧ Below w.heap.size w w' := by
 have hl : (decDigits n).length ≤ 20 := by rw [dec_length]; exact nDigits_le20 h
 have HF := Lib.hid (Tryz.strconv_ParseUint_10_at64_ok ⟨(decDigits n).toArray⟩ (by simp [ByteArray.size]; omega) n (by simpa using parseUintB_dec h) w)
 generalize decDigits n = l at *
 go_enter Tryz.func236, Tryz.ntmps236
 go_wp2_with (go_at_call 262; refine HF.out.mono ?_; rintro e w' ⟨rfl, hw⟩; have hb := bytes_below' (hw.imp id (fun h => ⟨_, h⟩)); clear hw)
 go_ret2
 exact ⟨rfl, hb⟩
set_option maxHeartbeats 400000 in
theorem both_yes (a b : Nat) (w : World) (ha : (decDigits a).length ≤ 18) (hb : (decDigits b).length ≤ 18) :
  Calls Tryz.prog 195 #[.string ⟨(decDigits a).toArray⟩, .string ⟨(decDigits b).toArray⟩] w fun e w' => e = .returned (.tuple #[.int .u64 a, .int .u64 b, .bool true]) ∧ Below w.heap.size w w' := by
 have h1 : a < 10 ^ 18 := Nat.lt_of_lt_of_le (dec_lt_pow a) (Nat.pow_le_pow_right (by omega) ha)
 have h2 : b < 10 ^ 18 := Nat.lt_of_lt_of_le (dec_lt_pow b) (Nat.pow_le_pow_right (by omega) hb)
 have HA := Lib.hid (fun W => small_yes a W (by omega))
 have HB := Lib.hid (fun W => small_yes b W (by omega))
 generalize decDigits a = l at *
 generalize decDigits b = r at *
 go_enter Tryz.func195, Tryz.ntmps195
 go_wp2_with fail
 refine (HA.out _).mono ?_
 rintro e w1 ⟨rfl, hb1⟩
 go_wp2_with fail
 refine (HB.out _).mono ?_
 rintro e w2 ⟨rfl, hb2⟩
 go_wp2_with fail
 go_ret3
 exact ⟨rfl, hb1.trans (hb2.mono hb1.size)⟩
set_option maxHeartbeats 400000 in
theorem both_no (l r : List UInt8) (w : World) (h : 18 < l.length ∨ 18 < r.length) (_h1 : l.length ≤ 1000000) (_h2 : r.length ≤ 1000000) :
  Calls Tryz.prog 195 #[.string ⟨l.toArray⟩, .string ⟨r.toArray⟩] w fun e w' => e = .returned (.tuple #[.int .u64 0, .int .u64 0, .bool false]) ∧ w = w' := by
 by_cases hl : 18 < l.length
 ·clear h
  go_enter Tryz.func195, Tryz.ntmps195
  go_wp2
  go_ret3
  exact ⟨rfl, rfl⟩
 ·have hr : 18 < r.length := by omega
  clear h
  go_enter Tryz.func195, Tryz.ntmps195
  go_wp2
  go_ret3
  exact ⟨rfl, rfl⟩
theorem pcs_len_le : ∀ (k x : Nat), x < 1000000000 ^ k → (pcs x).length ≤ k
 | 0, x, h => by simp at h; subst h; rw [pcs_zero]; simp
 | k + 1, x, h => by
   rcases Nat.eq_zero_or_pos x with h0 | h0
   ·subst h0; rw [pcs_zero]; simp
   ·rw [pcs_pos h0, List.length_cons]
    have := pcs_len_le k (x / 1000000000) (by rw [Nat.pow_succ] at h; omega)
    omega
theorem pcs_le_dec (a : Nat) : (pcs a).length ≤ (decDigits a).length := by
 refine pcs_len_le _ _ (Nat.lt_of_lt_of_le (dec_lt_pow a) ?_)
 exact Nat.pow_le_pow_left (by omega) _
theorem mk_toList (l : List UInt8) : (⟨l.toArray⟩ : ByteArray).data.toList = l := rfl
theorem mk_size (l : List UInt8) : (⟨l.toArray⟩ : ByteArray).size = l.length := by simp [ByteArray.size]
theorem cut_dec (a : Nat) (w : World) (ha : (decDigits a).length ≤ 1000000) :
  Calls Tryz.prog 197 #[.string ⟨(decDigits a).toArray⟩] w fun e w' => OwnP w.heap.size a w' e ∧ Below w.heap.size w w' := by
 have := cut_any ⟨(decDigits a).toArray⟩ w (dec_dig a) (by rw [mk_size]; exact ha)
 rw [mk_toList, dval_dec] at this
 exact this
def PcsRow (w : World) (base : Nat) (v : Value) (x : Nat) : Prop := w.ownsRow base 229 1 v (pcs x).length (us (pcs x))
theorem times_own (v1 v2 : Value) (b1 b2 x y : Nat) (w : World) (h1 : PcsRow w b1 v1 x) (h2 : PcsRow w b2 v2 y) (l1 : (pcs x).length ≤ 1000000) (l2 : (pcs y).length ≤ 1000000) :
  Calls Tryz.prog 198 #[v1, v2] w fun e w' => OwnP w.heap.size (x * y) w' e ∧ Below w.heap.size w w' := by
 obtain ⟨A1, c1, rfl, _, _, r1⟩ := Row.of_own h1
 obtain ⟨A2, c2, rfl, _, _, r2⟩ := Row.of_own h2
 have := times_any A1 A2 _ _ c1 c2 (pcs x) (pcs y) w r1 r2 (pcs_lt x) (pcs_lt y) l1 l2
 rw [pv_pcs, pv_pcs] at this
 exact this
theorem text_own (v : Value) (b x : Nat) (w : World) (h : PcsRow w b v x) (l : (pcs x).length ≤ 1000000) :
  Calls Tryz.prog 199 #[v] w fun e w' => e = .returned (.string ⟨(decDigits x).toArray⟩) ∧ Below w.heap.size w w' := by
 obtain ⟨A1, c1, rfl, _, _, r1⟩ := Row.of_own h
 exact text_any A1 _ c1 x w r1 l
theorem PcsRow.below {w w' : World} {b x : Nat} {v : Value} (h : PcsRow w b v x) (hb : Below w.heap.size w w') : PcsRow w' b v x := own_below h hb
theorem pcs_mul_len (a b m : Nat) (ha : (pcs a).length + (pcs b).length ≤ m) : (pcs (a * b)).length ≤ m := by
 refine pcs_len_le _ _ ?_
 have h1 := pv_lt _ (pcs_lt a)
 have h2 := pv_lt _ (pcs_lt b)
 rw [pv_pcs] at h1 h2
 have h3 : a * b < 1000000000 ^ ((pcs a).length + (pcs b).length) := by
  rw [Nat.pow_add]
  exact Nat.mul_lt_mul'' h1 h2
 exact Nat.lt_of_lt_of_le h3 (Nat.pow_le_pow_right (by omega) ha)
def cmpN (a b : Nat) : Int := if a < b then -1 else if a = b then 0 else 1
theorem less_dig : ∀ (l r : List UInt8), l.length = r.length → (∀ c ∈ l, isDig c) → (∀ c ∈ r, isDig c) → Op.bytesLess l r = decide (dval 0 l < dval 0 r)
 | [], [], _, _, _ => by simp [Op.bytesLess]
 | [], _ :: _, h, _, _ => by simp at h
 | _ :: _, [], h, _, _ => by simp at h
 | c :: l, d :: r, h, hl, hr => by
   have hlen : l.length = r.length := by simpa using h
   have ih := less_dig l r hlen (fun x hx => hl x (by simp [hx])) (fun x hx => hr x (by simp [hx]))
   have hc := dgv_lt (hl c (by simp))
   have hd := dgv_lt (hr d (by simp))
   have h1 := dval_lt0 l (fun x hx => hl x (by simp [hx]))
   have h2 := dval_lt0 r (fun x hx => hr x (by simp [hx]))
   rw [← hlen] at h2
   simp only [Op.bytesLess, ih, dval_cons, Nat.mul_zero, Nat.zero_add]
   rw [dval_acc l (dgv c), dval_acc r (dgv d), ← hlen]
   rw [Bool.eq_iff_iff]
   simp only [Bool.or_eq_true, Bool.and_eq_true, decide_eq_true_eq, beq_iff_eq, UInt8.lt_iff_toNat_lt]
   rcases Nat.lt_trichotomy (dgv c) (dgv d) with hlt | heq | hgt
   ·have h3 : (dgv c + 1) * 10 ^ l.length ≤ dgv d * 10 ^ l.length := Nat.mul_le_mul_right _ hlt
    rw [Nat.add_mul] at h3
    constructor
    ·intro _; omega
    ·intro _; left; omega
   ·have e : c = d := UInt8.toNat_inj.1 (by omega)
    subst e
    simp
   ·have h3 : (dgv d + 1) * 10 ^ l.length ≤ dgv c * 10 ^ l.length := Nat.mul_le_mul_right _ hgt
    rw [Nat.add_mul] at h3
    constructor
    ·rintro (h | ⟨h, _⟩)
     ·omega
     ·subst h; omega
    ·intro _; omega
theorem less_dec (a b : Nat) (h : (decDigits a).length = (decDigits b).length) : Op.bytesLess (decDigits a) (decDigits b) = decide (a < b) := by
 rw [less_dig _ _ h (dec_dig a) (dec_dig b), dval_dec, dval_dec]
theorem dec_len_lt {a b : Nat} (h : (decDigits a).length < (decDigits b).length) : a < b := by
 rw [dec_length, dec_length] at h
 exact nDigits_lt_of h
theorem ret_int {k : IntKind} {a b : Int} (h : a = b) : Ending.returned (.int k a) = .returned (.int k b) := by rw [h]
set_option maxHeartbeats 400000 in
theorem compare_any (a b : Nat) (w : World) (ha : (decDigits a).length ≤ 1000000) (hb : (decDigits b).length ≤ 1000000) :
  Calls Tryz.prog 156 #[.string ⟨(decDigits a).toArray⟩, .string ⟨(decDigits b).toArray⟩] w fun e w' => e = .returned (.int .i64 (cmpN a b)) ∧ w = w' := by
 rcases Nat.lt_trichotomy (decDigits a).length (decDigits b).length with hlt | heq | hgt
 ·have hc : cmpN a b = -1 := by unfold cmpN; rw [if_pos (dec_len_lt hlt)]
  rw [hc]
  clear hc
  generalize decDigits a = l at *
  generalize decDigits b = r at *
  go_enter Tryz.func156, Tryz.ntmps156
  go_wp2
  go_ret
  refine ⟨?_, rfl⟩
  refine ret_int ?_
  omega
 ·have hl1 := less_dec a b heq
  have heq2 : (decDigits a == decDigits b) = decide (a = b) := by
   rw [Bool.eq_iff_iff, beq_iff_eq, decide_eq_true_iff]
   exact ⟨dec_inj, fun h => by rw [h]⟩
  rcases Nat.lt_trichotomy a b with h | h | h
  ·have hc : cmpN a b = -1 := by unfold cmpN; rw [if_pos h]
   rw [decide_eq_true h] at hl1
   rw [hc]
   clear hc heq2
   generalize decDigits a = l at *
   generalize decDigits b = r at *
   go_enter Tryz.func156, Tryz.ntmps156
   go_wp2
   go_ret
   exact ⟨rfl, rfl⟩
  ·have hc : cmpN a b = 0 := by unfold cmpN; rw [if_neg (by omega), if_pos h]
   rw [decide_eq_false (by omega)] at hl1
   rw [hc]
   subst h
   clear hc heq2
   generalize decDigits a = l at *
   go_enter Tryz.func156, Tryz.ntmps156
   go_wp2
   go_ret
   exact ⟨rfl, rfl⟩
  ·have hc : cmpN a b = 1 := by unfold cmpN; rw [if_neg (by omega), if_neg (by omega)]
   rw [decide_eq_false (by omega)] at hl1
   rw [decide_eq_false (by omega)] at heq2
   rw [hc]
   clear hc
   generalize decDigits a = l at *
   generalize decDigits b = r at *
   go_enter Tryz.func156, Tryz.ntmps156
   go_wp2
   go_ret
   exact ⟨rfl, rfl⟩
 ·have hc : cmpN a b = 1 := by
   have := dec_len_lt hgt
   unfold cmpN; rw [if_neg (by omega), if_neg (by omega)]
  rw [hc]
  clear hc
  generalize decDigits a = l at *
  generalize decDigits b = r at *
  go_enter Tryz.func156, Tryz.ntmps156
  go_wp2
  go_ret
  refine ⟨?_, rfl⟩
  refine ret_int ?_
  omega
theorem ba_ext {a b : ByteArray} (h : a.data.toList = b.data.toList) : a = b := by
 obtain ⟨⟨x⟩⟩ := a
 obtain ⟨⟨y⟩⟩ := b
 simp at h
 rw [h]
theorem ba_tail (c : UInt8) (r : List UInt8) : (⟨(c :: r).toArray⟩ : ByteArray).extract 1 (r.length + 1) = ⟨r.toArray⟩ := ba_ext (by
 rw [ext_eq, mk_toList, mk_toList, List.take_of_length_le (by simp)]; rfl)
theorem ba_append (l r : List UInt8) : (⟨l.toArray⟩ ++ ⟨r.toArray⟩ : ByteArray) = ⟨(l ++ r).toArray⟩ := ba_ext (by simp)
theorem ret2 {a b c d : Value} (h1 : a = c) (h2 : b = d) : Ending.returned (.tuple #[a, b]) = .returned (.tuple #[c, d]) := by rw [h1, h2]
theorem ret1 {a b : Value} (h : a = b) : Ending.returned a = .returned b := by rw [h]
set_option maxHeartbeats 400000 in
theorem split_neg (r : List UInt8) (w : World) (hr : r.length ≤ 1000000) :
  Calls Tryz.prog 128 #[.string ⟨(45 :: r).toArray⟩] w fun e w' => e = .returned (.tuple #[.bool true, .string ⟨r.toArray⟩]) ∧ Below w.heap.size w w' := by
 go_enter Tryz.func128, Tryz.ntmps128
 go_wp2
 go_quiet (fail)
 go_wp2
 go_ret2
 exact ⟨ret2 rfl (congrArg Value.string (ba_tail 45 r)), below_drewN (Below.refl _ _) _⟩
set_option maxHeartbeats 400000 in
theorem split_pos (c : UInt8) (r : List UInt8) (w : World) (_hr : r.length ≤ 1000000) (hc : ((c.toNat : Int) == 45) = false) :
  Calls Tryz.prog 128 #[.string ⟨(c :: r).toArray⟩] w fun e w' => e = .returned (.tuple #[.bool false, .string ⟨(c :: r).toArray⟩]) ∧ w = w' := by
 have hx : ∀ h, (⟨(c :: r).toArray⟩ : ByteArray)[0]'h = c := fun _ => rfl
 go_enter Tryz.func128, Tryz.ntmps128
 go_wp2
 go_ret2
 exact ⟨rfl, rfl⟩
set_option maxHeartbeats 400000 in
theorem split_nil (w : World) :
  Calls Tryz.prog 128 #[.string ⟨#[]⟩] w fun e w' => e = .returned (.tuple #[.bool false, .string ⟨#[]⟩]) ∧ w = w' := by
 go_enter Tryz.func128, Tryz.ntmps128
 go_wp2
 go_ret2
 exact ⟨rfl, rfl⟩
set_option maxHeartbeats 400000 in
theorem join_false (l : List UInt8) (w : World) :
  Calls Tryz.prog 157 #[.bool false, .string ⟨l.toArray⟩] w fun e w' => e = .returned (.string ⟨l.toArray⟩) ∧ w = w' := by
 go_enter Tryz.func157, Tryz.ntmps157
 go_wp2
 go_ret
 exact ⟨rfl, rfl⟩
set_option maxHeartbeats 400000 in
theorem join_true (l : List UInt8) (w : World) (h : (l == [48]) = false) (_h' : (l != [48]) = true) (hl : l.length ≤ 1000000) :
  Calls Tryz.prog 157 #[.bool true, .string ⟨l.toArray⟩] w fun e w' => e = .returned (.string ⟨(45 :: l).toArray⟩) ∧ w = w' := by
 go_enter Tryz.func157, Tryz.ntmps157
 go_wp2
 go_ret
 exact ⟨ret1 (congrArg Value.string (ba_append [45] l)), rfl⟩
set_option maxHeartbeats 400000 in
theorem join_zero (w : World) :
  Calls Tryz.prog 157 #[.bool true, .string ⟨#[48]⟩] w fun e w' => e = .returned (.string ⟨#[48]⟩) ∧ w = w' := by
 go_enter Tryz.func157, Tryz.ntmps157
 go_wp2
 go_ret
 exact ⟨rfl, rfl⟩
theorem itoa_cases (z : Int) : (z < 0 ∧ itoa z = 45 :: decDigits z.natAbs) ∨ (0 ≤ z ∧ itoa z = decDigits z.natAbs) := by
 unfold itoa
 split
 ·exact .inl ⟨by omega, rfl⟩
 ·exact .inr ⟨by omega, by rw [show z.toNat = z.natAbs by omega]⟩
theorem dec_first (n : Nat) : ∃ c r, decDigits n = c :: r ∧ ((c.toNat : Int) == 45) = false ∧ r.length + 1 = (decDigits n).length := by
 have hd := dec_dig n
 have hn := dec_ne_nil n
 generalize decDigits n = l at *
 match l, hn with
 | c :: r, _ =>
   have := hd c (by simp)
   unfold isDig at this
   exact ⟨c, r, rfl, by simp; omega, by simp⟩
theorem split_any (z : Int) (w : World) (h : (itoa z).length ≤ 100000) :
  Calls Tryz.prog 128 #[.string ⟨(itoa z).toArray⟩] w fun e w' => e = .returned (.tuple #[.bool (decide (z < 0)), .string ⟨(decDigits z.natAbs).toArray⟩]) ∧ Below w.heap.size w w' := by
 rcases itoa_cases z with ⟨hz, e⟩ | ⟨hz, e⟩
 ·rw [e] at h ⊢
  rw [decide_eq_true hz]
  exact split_neg _ w (by simp at h; omega)
 ·rw [e] at h ⊢
  rw [decide_eq_false (by omega)]
  obtain ⟨c, r, e2, hc, hl⟩ := dec_first z.natAbs
  rw [e2] at h ⊢
  exact (split_pos c r w (by simp at h; omega) hc).mono fun _ _ ⟨h1, h2⟩ => ⟨h1, h2 ▸ Below.refl _ _⟩
theorem dec_eq_zero (n : Nat) : (decDigits n == [48]) = decide (n = 0) := by
 rw [Bool.eq_iff_iff, beq_iff_eq, decide_eq_true_iff]
 constructor
 ·intro h
  have h2 := dval_dec n
  rw [h, dval_cons, dval_nil, dgv_eq] at h2
  have e : (48 : UInt8).toNat = 48 := rfl
  omega
 ·intro h; subst h; rw [dec_small (by omega)]; rfl
theorem dec_eq_one (n : Nat) : (decDigits n == [49]) = decide (n = 1) := by
 rw [Bool.eq_iff_iff, beq_iff_eq, decide_eq_true_iff]
 constructor
 ·intro h
  have h2 := dval_dec n
  rw [h, dval_cons, dval_nil, dgv_eq] at h2
  have e : (49 : UInt8).toNat = 49 := rfl
  omega
 ·intro h; subst h; rw [dec_small (by omega)]; rfl
def signed (neg : Bool) (n : Nat) : Int := if neg then -(n : Int) else n
theorem join_any (b : Bool) (n : Nat) (w : World) (h : (decDigits n).length ≤ 100000) :
  Calls Tryz.prog 157 #[.bool b, .string ⟨(decDigits n).toArray⟩] w fun e w' => e = .returned (.string ⟨(itoa (signed b n)).toArray⟩) ∧ w = w' := by
 cases b with
 | false =>
   have e : itoa (signed false n) = decDigits n := itoa_nat n
   rw [e]
   exact join_false _ w
 | true =>
   by_cases h0 : n = 0
   ·subst h0
    have e : itoa (signed true 0) = decDigits 0 := itoa_nat 0
    rw [e, dec_small (by omega)]
    exact join_zero w
   ·have e : itoa (signed true n) = 45 :: decDigits n := itoa_neg n (by omega)
    rw [e]
    have h1 := dec_eq_zero n
    rw [decide_eq_false h0] at h1
    exact join_true _ w h1 (by simp only [bne, h1]; rfl) (by omega)
def digB (c : UInt8) : Bool := decide (48 ≤ c.toNat ∧ c.toNat ≤ 57)
def headB (l : List UInt8) : Bool := l.length == 1 || (decide (1 < l.length) && decide ((l[0]?.getD 0).toNat ≠ 48))
def canonB (l : List UInt8) : Bool := l.all digB && headB l
theorem canonB_iff (l : List UInt8) : canonB l = true ↔ ∃ n, l = decDigits n := by
 rw [← canon_iff]
 unfold canonB headB Canon
 rw [Bool.and_eq_true, List.all_eq_true, Bool.or_eq_true, Bool.and_eq_true, beq_iff_eq, decide_eq_true_iff, decide_eq_true_iff]
 refine and_congr ⟨fun h c hc => of_decide_eq_true (h c hc), fun h c hc => decide_eq_true (h c hc)⟩ (or_congr Iff.rfl (and_congr_right fun h1 => ?_))
 match l, h1 with
 | c :: r, _ => exact ⟨fun h => ⟨c, r, rfl, h⟩, fun ⟨c', r', e, h⟩ => by cases e; exact h⟩
theorem ba_first (l : List UInt8) : ∀ h, (⟨l.toArray⟩ : ByteArray)[0]'h = l[0]?.getD 0 := by
 intro h
 cases l with
 | nil => exact absurd h (by simp [ByteArray.size])
 | cons c r => rfl
set_option maxRecDepth 100000 in
set_option maxHeartbeats 400000 in
theorem canonical_any (l : List UInt8) (w : World) (hl : l.length ≤ 1000000) :
  Calls Tryz.prog 182 #[.string ⟨l.toArray⟩] w fun e w' => e = .returned (.bool (canonB l)) ∧ Below w.heap.size w w' := by
 go_enter Tryz.func182, Tryz.ntmps182
 go_wp2_with (refine wpList_bytes _ rfl _ _ _ rfl 5 Tryz.underlying49 Tryz.underlying22 Tryz.underlying5 _ rfl l (mk_toList l) ?_; intro cap w2 hb2 hr2)
 go_loop [8] (fun i => ∃ k : Nat, k ≤ l.length ∧ i = .int .i64 k ∧ (l.take k).all digB = true) (fun i => l.length - (intOf i).toNat)
 case atStart => exact ⟨0, Nat.zero_le _, rfl, rfl⟩
 case round =>
  obtain ⟨k, hk, rfl, hall⟩ := hrel
  have HA := Lib.hid hall
  clear hall
  by_cases hlt : k < l.length
  ·have hcell : w2.cell? ⟨w.heap.size, k, Option.none⟩ = some (.int .u8 (((l[k]?.getD 0).toNat : Nat) : Int)) := by
    obtain ⟨ad, e, _, hc⟩ := hr2.b_at hlt
    injection e with e
    subst e
    rw [addr0] at hc
    exact hc
   have hsucc : (l.take (k + 1)).all digB = ((l.take k).all digB && digB (l[k]?.getD 0)) := by
    rw [List.take_succ_eq_append_getElem hlt, List.all_append, List.getElem?_eq_getElem hlt]; simp
   have hfail : digB (l[k]?.getD 0) = false → canonB l = false := by
    intro h
    unfold canonB
    rw [Bool.and_eq_false_iff]
    left
    rw [List.all_eq_false]
    exact ⟨l[k], List.getElem_mem hlt, by rw [List.getElem?_eq_getElem hlt] at h; simpa using h⟩
   have hdb : digB (l[k]?.getD 0) = decide (48 ≤ (l[k]?.getD 0).toNat ∧ (l[k]?.getD 0).toNat ≤ 57) := rfl
   generalize hcc : l[k]?.getD 0 = c at *
   have HF := Lib.hid hfail
   have HS := Lib.hid hsucc
   have HD := Lib.hid hdb
   clear hfail hsucc hdb hcc hr2
   by_cases hc1 : c.toNat < 48
   ·go_wp2
    go_ret
    exact ⟨by rw [HF.out (by rw [HD.out]; simp; omega)]; rfl, hb2⟩
   ·by_cases hc2 : 57 < c.toNat
    ·go_wp2
     go_ret
     exact ⟨by rw [HF.out (by rw [HD.out]; simp; omega)]; rfl, hb2⟩
    ·go_wp2
     go_round
     case rel => exact ⟨k + 1, by omega, by go_num, by rw [HS.out, HA.out, HD.out]; simp; omega⟩
     case measure => simp [intOf]; omega
  ·obtain rfl : k = l.length := by omega
   have hv : canonB l = headB l := by
    have h := HA.out
    rw [List.take_of_length_le (Nat.le_refl _)] at h
    unfold canonB
    rw [h, Bool.true_and]
   have HV := Lib.hid hv
   clear hv hr2
   have hx : ∀ h, (⟨l.toArray⟩ : ByteArray)[0]'h = l[0]?.getD 0 := ba_first l
   have hhb : headB l = (l.length == 1 || (decide (1 < l.length) && decide ((l[0]?.getD 0).toNat ≠ 48))) := rfl
   generalize hcc : l[0]?.getD 0 = c at *
   have HH := Lib.hid hhb
   clear hhb hcc
   by_cases h1 : l.length = 1
   ·have h1' : ((l.length : Int) == 1) = true := by rw [h1]; rfl
    go_wp2
    go_ret
    exact ⟨ret1 (by rw [HV.out, HH.out, h1]; rfl), hb2⟩
   ·have h1' : ((l.length : Int) == 1) = false := by simp; omega
    by_cases h2 : 1 < l.length
    ·by_cases h3 : c.toNat = 48
     ·have h3' : ((c.toNat : Int) != 48) = false := by rw [h3]; rfl
      go_wp2
      go_ret
      exact ⟨ret1 (by rw [HV.out, HH.out, h3]; simp [h1]), hb2⟩
     ·have h3' : ((c.toNat : Int) != 48) = true := by simp; omega
      go_wp2
      go_ret
      exact ⟨ret1 (by rw [HV.out, HH.out]; simp [h2, h3]), hb2⟩
    ·go_wp2
     go_ret
     exact ⟨ret1 (by rw [HV.out, HH.out]; simp [h1, h2]), hb2⟩
theorem decCheck_any (l : List UInt8) (w : World) (hl : l.length ≤ 1000000) :
  Calls Tryz.prog 133 #[.string ⟨l.toArray⟩] w fun e w' => e = .returned (.int .i64 (if canonB l = true ∧ l.length ≤ 400 then 0 else 2)) ∧ Below w.heap.size w w' := by
 have HC := Lib.hid (canonical_any l w hl)
 cases hb : canonB l with
 | true =>
   rw [hb] at HC
   by_cases h4 : l.length ≤ 400
   ·rw [if_pos ⟨rfl, h4⟩]
    go_enter Tryz.func133, Tryz.ntmps133
    go_wp2_with (go_at_call 182; refine HC.out.mono ?_; rintro e w1 ⟨rfl, hb1⟩)
    go_ret
    exact ⟨rfl, hb1⟩
   ·rw [if_neg (fun h => h4 h.2)]
    go_enter Tryz.func133, Tryz.ntmps133
    go_wp2_with (go_at_call 182; refine HC.out.mono ?_; rintro e w1 ⟨rfl, hb1⟩)
    go_ret
    exact ⟨rfl, hb1⟩
 | false =>
   rw [hb] at HC
   rw [if_neg (fun h => by cases h.1)]
   go_enter Tryz.func133, Tryz.ntmps133
   go_wp2_with (go_at_call 182; refine HC.out.mono ?_; rintro e w1 ⟨rfl, hb1⟩)
   go_ret
   exact ⟨rfl, hb1⟩
def intB (l : List UInt8) : Prop := ∃ z : Int, l = itoa z ∧ (decDigits z.natAbs).length ≤ 400
set_option maxHeartbeats 400000 in
theorem whCheck_neg (r : List UInt8) (w : World) (hl : r.length ≤ 100000) :
  Calls Tryz.prog 94 #[.string ⟨(45 :: r).toArray⟩] w fun e w' => e = .returned (.int .i64 (if (r == [48]) = false ∧ canonB r = true ∧ r.length ≤ 400 then 0 else 2)) ∧ Below w.heap.size w w' := by
 have HP := Lib.hid (split_neg r w (by omega))
 have HC := Lib.hid (fun W => decCheck_any r W (by omega))
 generalize (45 :: r) = l at *
 cases h0 : (r == [48]) with
 | true =>
   rw [if_neg (by simp)]
   go_enter Tryz.func94, Tryz.ntmps94
   go_wp2_with (go_at_call 128; refine HP.out.mono ?_; rintro e w1 ⟨rfl, hb1⟩)
   go_ret
   exact ⟨rfl, hb1⟩
 | false =>
   by_cases hc : canonB r = true ∧ r.length ≤ 400
   ·rw [if_pos hc] at HC
    rw [if_pos ⟨rfl, hc⟩]
    clear hc
    go_enter Tryz.func94, Tryz.ntmps94
    go_wp2_with (first | (go_at_call 128; refine HP.out.mono ?_; rintro e w1 ⟨rfl, hb1⟩) | (go_at_call 133; refine (HC.out _).mono ?_; rintro e w2 ⟨rfl, hb2⟩))
    go_ret
    exact ⟨rfl, hb1.trans (hb2.mono hb1.size)⟩
   ·rw [if_neg hc] at HC
    rw [if_neg (fun h => hc h.2)]
    clear hc
    go_enter Tryz.func94, Tryz.ntmps94
    go_wp2_with (first | (go_at_call 128; refine HP.out.mono ?_; rintro e w1 ⟨rfl, hb1⟩) | (go_at_call 133; refine (HC.out _).mono ?_; rintro e w2 ⟨rfl, hb2⟩))
    go_ret
    exact ⟨rfl, hb1.trans (hb2.mono hb1.size)⟩
set_option maxHeartbeats 400000 in
theorem whCheck_pos (l : List UInt8) (w : World) (hl : l.length ≤ 100000)
  (HP : Hid (Calls Tryz.prog 128 #[.string ⟨l.toArray⟩] w fun e w' => e = .returned (.tuple #[.bool false, .string ⟨l.toArray⟩]) ∧ w = w')) :
  Calls Tryz.prog 94 #[.string ⟨l.toArray⟩] w fun e w' => e = .returned (.int .i64 (if canonB l = true ∧ l.length ≤ 400 then 0 else 2)) ∧ Below w.heap.size w w' := by
 have HC := Lib.hid (decCheck_any l w (by omega))
 by_cases hc : canonB l = true ∧ l.length ≤ 400
 ·rw [if_pos hc] at HC ⊢
  clear hc
  go_enter Tryz.func94, Tryz.ntmps94
  go_wp2_with (first | (go_at_call 128; refine HP.out.mono ?_; rintro e w1 ⟨rfl, rfl⟩) | (go_at_call 133; refine HC.out.mono ?_; rintro e w2 ⟨rfl, hb2⟩))
  go_ret
  exact ⟨rfl, hb2⟩
 ·rw [if_neg hc] at HC ⊢
  clear hc
  go_enter Tryz.func94, Tryz.ntmps94
  go_wp2_with (first | (go_at_call 128; refine HP.out.mono ?_; rintro e w1 ⟨rfl, rfl⟩) | (go_at_call 133; refine HC.out.mono ?_; rintro e w2 ⟨rfl, hb2⟩))
  go_ret
  exact ⟨rfl, hb2⟩
theorem intB_neg (r : List UInt8) : ((r == [48]) = false ∧ canonB r = true ∧ r.length ≤ 400) ↔ intB (45 :: r) := by
 constructor
 ·rintro ⟨h0, hc, hl⟩
  obtain ⟨n, rfl⟩ := (canonB_iff r).1 hc
  rw [dec_eq_zero, decide_eq_false_iff_not] at h0
  exact ⟨-(n : Int), (itoa_neg n (by omega)).symm, by simpa using hl⟩
 ·rintro ⟨z, h, hl⟩
  rcases itoa_cases z with ⟨hz, e⟩ | ⟨hz, e⟩
  ·rw [e] at h
   injection h with _ h
   subst h
   refine ⟨?_, (canonB_iff _).2 ⟨_, rfl⟩, hl⟩
   rw [dec_eq_zero, decide_eq_false_iff_not]
   omega
  ·obtain ⟨c, r', e2, hc, _⟩ := dec_first z.natAbs
   rw [e, e2] at h
   injection h with h _
   subst h
   simp at hc
theorem intB_pos (l : List UInt8) (h : ∀ r, l ≠ 45 :: r) : (canonB l = true ∧ l.length ≤ 400) ↔ intB l := by
 constructor
 ·rintro ⟨hc, hl⟩
  obtain ⟨n, rfl⟩ := (canonB_iff l).1 hc
  exact ⟨n, (itoa_nat n).symm, by simpa using hl⟩
 ·rintro ⟨z, e, hl⟩
  rcases itoa_cases z with ⟨hz, e2⟩ | ⟨hz, e2⟩
  ·rw [e2] at e
   exact absurd e (h _)
  ·rw [e2] at e
   subst e
   exact ⟨(canonB_iff _).2 ⟨_, rfl⟩, hl⟩
theorem whCheck_split (l : List UInt8) (w : World) (hl : l.length ≤ 100000) (r : Int) (hr : (intB l ∧ r = 0) ∨ (¬ intB l ∧ r = 2)) :
  Calls Tryz.prog 94 #[.string ⟨l.toArray⟩] w fun e w' => e = .returned (.int .i64 r) ∧ Below w.heap.size w w' := by
 by_cases h45 : ∃ t, l = 45 :: t
 ·obtain ⟨t, rfl⟩ := h45
  refine (whCheck_neg t w (by simp at hl; omega)).mono fun e w' ⟨he, hb⟩ => ⟨?_, hb⟩
  rw [he]
  refine ret_int ?_
  rcases hr with ⟨h, rfl⟩ | ⟨h, rfl⟩
  ·rw [if_pos ((intB_neg t).2 h)]
  ·rw [if_neg (fun h' => h ((intB_neg t).1 h'))]
 ·have hne : ∀ t, l ≠ 45 :: t := fun t e => h45 ⟨t, e⟩
  have hsp : Calls Tryz.prog 128 #[.string ⟨l.toArray⟩] w fun e w' => e = .returned (.tuple #[.bool false, .string ⟨l.toArray⟩]) ∧ w = w' := by
   cases l with
   | nil => exact split_nil w
   | cons c t =>
     refine split_pos c t w (by simp at hl; omega) ?_
     rw [beq_eq_false_iff_ne]
     intro h
     have : c = 45 := UInt8.toNat_inj.1 (by have : (45 : UInt8).toNat = 45 := rfl; omega)
     exact hne t (by rw [this])
  refine (whCheck_pos l w hl hsp).mono fun e w' ⟨he, hb⟩ => ⟨?_, hb⟩
  rw [he]
  refine ret_int ?_
  rcases hr with ⟨h, rfl⟩ | ⟨h, rfl⟩
  ·rw [if_pos ((intB_pos l hne).2 h)]
  ·rw [if_neg (fun h' => h ((intB_pos l hne).1 h'))]
theorem little_nat (n m : Nat) (w : World) (hl : (decDigits n).length ≤ m) (hm : m ≤ 18) :
  Calls Tryz.prog 134 #[.string ⟨(decDigits n).toArray⟩, .int .i64 m] w fun e w' => e = .returned (.tuple #[.int .i64 n, .bool true]) ∧ Below w.heap.size w w' := by
 have h := little_yes (n : Int) m w (by rw [itoa_nat]; exact hl) hm
 rw [itoa_nat] at h
 exact h
set_option maxHeartbeats 400000 in
theorem whAbs_any (z : Int) (w : World) (h : (itoa z).length ≤ 100000) :
  Calls Tryz.prog 84 #[.string ⟨(itoa z).toArray⟩] w fun e w' => e = .returned (.string ⟨(decDigits z.natAbs).toArray⟩) ∧ Below w.heap.size w w' := by
 have HP := Lib.hid (split_any z w h)
 generalize itoa z = l at *
 generalize decDigits z.natAbs = r at *
 go_enter Tryz.func84, Tryz.ntmps84
 go_wp2_with (go_at_call 128; refine HP.out.mono ?_; rintro e w1 ⟨rfl, hb1⟩)
 go_ret
 exact ⟨rfl, hb1⟩
def sgn (z : Int) : Int := if z = 0 then 0 else if z < 0 then -1 else 1
theorem itoa_zero_beq (z : Int) : (itoa z == [48]) = decide (z = 0) := by
 rcases itoa_cases z with ⟨hz, e⟩ | ⟨hz, e⟩
 ·rw [e, decide_eq_false (by omega)]; rfl
 ·rw [e, dec_eq_zero]
  rw [Bool.eq_iff_iff, decide_eq_true_iff, decide_eq_true_iff]
  omega
set_option maxHeartbeats 400000 in
theorem whSign_any (z : Int) (w : World) (h : (itoa z).length ≤ 100000) :
  Calls Tryz.prog 95 #[.string ⟨(itoa z).toArray⟩] w fun e w' => e = .returned (.int .i64 (sgn z)) ∧ w = w' := by
 have h0 := itoa_zero_beq z
 rcases itoa_cases z with ⟨hz, e⟩ | ⟨hz, e⟩
 ·rw [decide_eq_false (by omega)] at h0
  have hv : sgn z = -1 := by unfold sgn; rw [if_neg (by omega), if_pos hz]
  rw [hv]
  rw [e] at h h0 ⊢
  generalize decDigits z.natAbs = r at *
  have hx : ∀ h, (⟨(45 :: r).toArray⟩ : ByteArray)[0]'h = 45 := fun _ => rfl
  clear hv e
  go_enter Tryz.func95, Tryz.ntmps95
  go_wp2
  go_ret
  exact ⟨rfl, rfl⟩
 ·by_cases hz0 : z = 0
  ·subst hz0
   rw [e, show (0 : Int).natAbs = 0 from rfl, dec_small (by omega)]
   clear h0 e h
   go_enter Tryz.func95, Tryz.ntmps95
   go_wp2
   go_ret
   exact ⟨rfl, rfl⟩
  ·rw [decide_eq_false hz0] at h0
   have hv : sgn z = 1 := by unfold sgn; rw [if_neg hz0, if_neg (by omega)]
   rw [hv]
   obtain ⟨c, r, e2, hc, _⟩ := dec_first z.natAbs
   rw [e, e2] at h h0 ⊢
   have hx : ∀ h, (⟨(c :: r).toArray⟩ : ByteArray)[0]'h = c := fun _ => rfl
   clear hv e e2
   go_enter Tryz.func95, Tryz.ntmps95
   go_wp2
   go_ret
   exact ⟨rfl, rfl⟩
set_option maxHeartbeats 400000 in
theorem gcd_any (a b : Nat) (w : World) (ha : a ≤ 1000000000000000000) (hb : b ≤ 1000000000000000000) :
  Calls Tryz.prog 135 #[.int .i64 a, .int .i64 b] w fun e w' => e = .returned (.int .i64 (Nat.gcd a b : Nat)) ∧ Below w.heap.size w w' := by
 have HA : Box (a ≤ 1000000000000000000) := ⟨ha⟩
 have HB : Box (b ≤ 1000000000000000000) := ⟨hb⟩
 clear ha hb
 go_enter Tryz.func135, Tryz.ntmps135
 go_wp2
 go_loopw [0, 1] (fun i j wr => ∃ x y : Nat, i = .int .i64 x ∧ j = .int .i64 y ∧ Box (x ≤ 1000000000000000000 ∧ y ≤ 1000000000000000000) ∧ Box (Nat.gcd x y = Nat.gcd a b) ∧ Below w.heap.size w wr) (fun _ j _ => (intOf j).toNat)
 case atStart => exact ⟨a, b, rfl, rfl, ⟨HA.out, HB.out⟩, ⟨rfl⟩, Below.refl _ _⟩
 case round =>
  obtain ⟨x, y, rfl, rfl, HL, HG, hbw⟩ := hrel
  by_cases hy : y = 0
  ·subst hy
   go_wp2
   go_ret
   exact ⟨ret_int (by rw [← HG.out, Nat.gcd_zero_right]), hbw⟩
  ·have hy1 : ((y : Int) != 0) = true := by simp; omega
   have hy2 : ((y : Int) == 0) = false := by simp; omega
   have hy3 : 1 ≤ (y : Int) := by omega
   have hrem : (x : Int).tmod (y : Int) = ((x % y : Nat) : Int) := by
    rw [Int.tmod_eq_emod_of_nonneg (by omega)]; simp
   have hlt := Nat.mod_lt x (Nat.pos_of_ne_zero hy)
   have HH := Lib.hid hrem
   have HLT := Lib.hid hlt
   clear hrem hlt
   go_wp2
   go_quiet (fail)
   go_wp2
   go_roundw
   case rel =>
    refine ⟨y, x % y, rfl, ?_, ⟨HL.out.2, by have := HLT.out; have := HL.out.2; omega⟩, ⟨?_⟩, below_drewN hbw _⟩
    ·first | go_num | rw [HH.out]
    ·rw [← HG.out, Nat.gcd_comm x y, Nat.gcd_rec y x, Nat.gcd_comm]
   case measure =>
    have h1 := HLT.out
    have h2 := HH.out
    simp [intOf]
    omega
theorem itoa_len (z : Int) : (itoa z).length ≤ (decDigits z.natAbs).length + 1 := by
 rcases itoa_cases z with ⟨_, e⟩ | ⟨_, e⟩
 ·rw [e, List.length_cons]; omega
 ·rw [e]; omega
theorem wrap_nat (q : Nat) (h : q < 10 ^ 18) : wrap64 (q : Int) = q := IntWalk.wrap64_in _ ⟨by omega, by omega⟩
theorem len18 {n : Nat} (h : (decDigits n).length ≤ 18) : n < 10 ^ 18 := Nat.lt_of_lt_of_le (dec_lt_pow n) (Nat.pow_le_pow_right (by omega) h)
set_option maxHeartbeats 400000 in
theorem whGcd_small (x y : Int) (w : World) (hS : Std w) (hx : (decDigits x.natAbs).length ≤ 18) (hy : (decDigits y.natAbs).length ≤ 18) :
  Calls Tryz.prog 96 #[.string ⟨(itoa x).toArray⟩, .string ⟨(itoa y).toArray⟩] w fun e w' => e = .returned (.string ⟨(decDigits (Nat.gcd x.natAbs y.natAbs)).toArray⟩) ∧ Below w.heap.size w w' := by
 have hx2 := len18 hx
 have hy2 := len18 hy
 have hlx : (itoa x).length ≤ 100000 := by have := itoa_len x; omega
 have hly : (itoa y).length ≤ 100000 := by have := itoa_len y; omega
 have hg : Nat.gcd x.natAbs y.natAbs ≤ 1000000000000000000 := by
  rcases Nat.eq_zero_or_pos x.natAbs with h | h
  ·rw [h, Nat.gcd_zero_left]; omega
  ·have := Nat.gcd_le_left y.natAbs h; omega
 have HX := Lib.hid (whAbs_any x w hlx)
 have HY := Lib.hid (fun W => whAbs_any y W hly)
 have HLX := Lib.hid (fun W => little_nat x.natAbs 18 W hx (Nat.le_refl _))
 have HLY := Lib.hid (fun W => little_nat y.natAbs 18 W hy (Nat.le_refl _))
 have HG := Lib.hid (fun W => gcd_any x.natAbs y.natAbs W (by omega) (by omega))
 have HO := Lib.hid (fun W (hW : Std W) => whOf_any (Nat.gcd x.natAbs y.natAbs : Nat) W (by omega) (by omega) hW)
 rw [itoa_nat] at HO
 have HS := Lib.hid hS
 clear hx2 hy2 hg hS hx hy hlx hly
 generalize itoa x = lx at *
 generalize itoa y = ly at *
 generalize x.natAbs = a at *
 generalize y.natAbs = b at *
 go_enter Tryz.func96, Tryz.ntmps96
 go_wp2_with fail
 refine HX.out.mono ?_
 rintro e w1 ⟨rfl, hb1⟩
 go_wp2_with fail
 refine (HY.out _).mono ?_
 rintro e w2 ⟨rfl, hb2⟩
 go_wp2_with fail
 refine (HLX.out _).mono ?_
 rintro e w3 ⟨rfl, hb3⟩
 go_wp2_with fail
 refine (HLY.out _).mono ?_
 rintro e w4 ⟨rfl, hb4⟩
 go_wp2_with fail
 refine (HG.out _).mono ?_
 rintro e w5 ⟨rfl, hb5⟩
 go_wp2_with fail
 have hs2 := HS.out.below hb1 (Nat.le_refl _) |>.below hb2 (Nat.le_refl _) |>.below hb3 (Nat.le_refl _) |>.below hb4 (Nat.le_refl _) |>.below hb5 (Nat.le_refl _)
 refine (HO.out _ hs2).mono ?_
 rintro e w6 ⟨rfl, hb6⟩
 go_wp2_with fail
 go_ret
 have h12 := hb1.trans (hb2.mono hb1.size)
 have h13 := h12.trans (hb3.mono h12.size)
 have h14 := h13.trans (hb4.mono h13.size)
 have h15 := h14.trans (hb5.mono h14.size)
 exact ⟨rfl, h15.trans (hb6.mono h15.size)⟩
set_option maxHeartbeats 1000000 in
theorem whDivMod_small (x y : Nat) (w : World) (hS : Std w) (hx : (decDigits x).length ≤ 18) (hy : (decDigits y).length ≤ 18) (h0 : 0 < y) :
  Calls Tryz.prog 179 #[.string ⟨(decDigits x).toArray⟩, .string ⟨(decDigits y).toArray⟩] w fun e w' => e = .returned (.tuple #[.string ⟨(decDigits (x / y)).toArray⟩, .string ⟨(decDigits (x % y)).toArray⟩, .int .i64 0]) ∧ Below w.heap.size w w' := by
 have hx2 := len18 hx
 have hy2 := len18 hy
 have hq : x / y ≤ x := Nat.div_le_self _ _
 have hr : x % y < y := Nat.mod_lt _ h0
 have hz := dec_eq_zero y
 rw [decide_eq_false (by omega)] at hz
 have HLX := Lib.hid (little_nat x 18 w hx (Nat.le_refl _))
 have HLY := Lib.hid (fun W => little_nat y 18 W hy (Nat.le_refl _))
 have hq18 : x / y < 10 ^ 18 := by omega
 have hr18 : x % y < 10 ^ 18 := by omega
 have HW : Box (wrap64 ((x : Int) / (y : Int)) = ((x / y : Nat) : Int)) := ⟨by rw [← Int.natCast_ediv]; exact wrap_nat _ hq18⟩
 have HM : Box ((x : Int) % (y : Int) = ((x % y : Nat) : Int)) := ⟨by rw [← Int.natCast_emod]⟩
 generalize x / y = q at *
 generalize x % y = r at *
 have HQ := Lib.hid (fun W (hW : Std W) => whOf_any (q : Int) W (by omega) (by omega) hW)
 have HR := Lib.hid (fun W (hW : Std W) => whOf_any (r : Int) W (by omega) (by omega) hW)
 rw [itoa_nat] at HQ HR
 have HS := Lib.hid hS
 clear hS hx hy hx2 hy2 hq hr hq18 hr18
 generalize decDigits x = lx at *
 generalize decDigits y = ly at *
 go_enter Tryz.func179, Tryz.ntmps179
 go_wp2_with fail
 refine HLX.out.mono ?_
 rintro e w1 ⟨rfl, hb1⟩
 go_wp2_with fail
 refine (HLY.out _).mono ?_
 rintro e w2 ⟨rfl, hb2⟩
 go_wp2_with fail
 go_quiet (fail)
 rw [HW.out, HM.out]
 have hr0 : ¬ (r : Int) < 0 := by omega
 have hy0 : ¬ (y : Int) < 0 := by omega
 have hs2 := HS.out.below hb1 (Nat.le_refl _) |>.below hb2 (Nat.le_refl _) |>.drewN nq
 have h12 := below_drewN (hb1.trans (hb2.mono hb1.size)) nq
 clear hb1 hb2
 have HS2 := Lib.hid hs2
 clear hs2
 by_cases hr : r = 0
 ·subst hr
  go_wp2_with fail
  refine (HQ.out _ HS2.out).mono ?_
  rintro e w3 ⟨rfl, hb3⟩
  go_wp2_with fail
  refine (HR.out _ (HS2.out.below hb3 (Nat.le_refl _))).mono ?_
  rintro e w4 ⟨rfl, hb4⟩
  go_wp2_with fail
  go_ret3
  have h13 := h12.trans (hb3.mono h12.size)
  exact ⟨rfl, h13.trans (hb4.mono h13.size)⟩
 ·have hr1 : ((r : Int) != 0) = true := by simp; omega
  go_wp2_with fail
  refine (HQ.out _ HS2.out).mono ?_
  rintro e w3 ⟨rfl, hb3⟩
  go_wp2_with fail
  refine (HR.out _ (HS2.out.below hb3 (Nat.le_refl _))).mono ?_
  rintro e w4 ⟨rfl, hb4⟩
  go_wp2_with fail
  go_ret3
  have h13 := h12.trans (hb3.mono h12.size)
  exact ⟨rfl, h13.trans (hb4.mono h13.size)⟩
end Go.Proofs.YtaaeekahhhookaaGreatDoor
