/- ScoreTokens: the walk (printed by gen_tok48.py). -/
import Derived.Test.YtaaeekahhhookaaGreatDoorRt8MTk
import Derived.Test.YtaaeekahhhookaaGreatDoorGXLMTk
import Derived.Test.YtaaeekahhhookaaGreatDoorGXFMTk
import Derived.Test.YtaaeekahhhookaaGreatDoorGXNTk
namespace Go.Proofs.YtaaeekahhhookaaGreatDoor
open Go.RowKit Go.Lib

theorem ba_word (t a b : List UInt8) : (⟨t.toArray⟩ ++ (⟨a.toArray⟩ ++ ⟨b.toArray⟩) : ByteArray) = ⟨(t ++ (a ++ b)).toArray⟩ := by rw [ba_append, ba_append]

theorem place_eql2 (a b : Int) (w : World) : (binOp .eql 31 (.agg #[.int .i64 a, .int .i64 b]) (.agg #[.int .i64 a, .int .i64 b])).run Tryz.prog w = .ok (.bool true) w := by
 have hS : Tryz.prog.underlying 31 = some (.struct (Tryz.prog.fieldsOf 31)) := by kernel_rfl
 have hp : Tryz.prog.stoodInHeld 31 = false := by kernel_rfl
 rw [run_eql_struct, show (10000 : Nat) = 9999 + 1 from rfl, run_equalIn_agg w 9999 31 _ _ hS hp]
 simp only [Program.fieldsOf, Tryz.underlying31]
 have u := Tryz.underlying3
 go_simp

set_option maxRecDepth 100000 in
set_option maxHeartbeats 8000000 in
theorem scTok_walk (v0 : Value) (l0 : List Nat) (w : World) (hS : Std w) (hL : ∃ m, w.cell? ⟨0, 0, Option.none⟩ = some (.int .i64 m)) (hv : U8A w v0 l0) :
  Calls Tryz.prog 3 #[v0] w fun e w' => e = .returned (.bool true) ∧ Below w.heap.size w w' := by
 have HS := Lib.hid hS
 have HLI : Hid (LenIs w) := Lib.hid hL
 obtain ⟨A0, c0, rfl, hc1, hc2, hla⟩ := hv
 have HLA := Lib.hid hla
 unfold maxLen at hc2
 clear hS hL hla
 go_enter Tryz.func3, Tryz.ntmps3
 go_wp2_with fail
 refine (known48 _ HS.out HLI.out).mono ?_
 rintro e w1 ⟨rfl, hb1⟩
 have HB := Lib.hid hb1
 replace HS := Lib.hid (HS.out.below hb1 (Nat.le_refl _))
 replace HLI : Hid (LenIs w1) := Lib.hid (HLI.out.below hb1)
 clear hb1
 by_cases hle : l0.length ≤ 40
 case neg =>
  have hgt : (40 : Int) < (l0.length : Int) := by omega
  go_wp2_with fail
  refine (known48 _ HS.out HLI.out).mono ?_
  rintro e w9 ⟨rfl, hb9⟩
  go_wp2_with fail
  go_ret
  exact ⟨rfl, HB.out.trans (hb9.mono HB.out.size)⟩
 case pos =>
 have hgt : ¬ (40 : Int) < (l0.length : Int) := by omega
 obtain ⟨W3, hW3⟩ : ∃ W3, W3 = w1.alloc (.cells #[.string ⟨#[112, 114, 105, 109, 101, 115]⟩, .string ⟨#[50]⟩, .string ⟨#[51]⟩, .string ⟨#[53]⟩, .string ⟨#[10]⟩, .string ⟨#[118, 111, 105, 99, 101]⟩, .string ⟨#[97]⟩, .string ⟨#[98, 50]⟩, .string ⟨#[49, 47, 52]⟩, .string ⟨#[58]⟩, .string ⟨#[10]⟩, .string ⟨#[91, 49, 32, 48, 32, 48, 62]⟩, .string ⟨#[51, 47, 50]⟩, .string ⟨#[10]⟩, .string ⟨#[91, 48, 32, 49, 62]⟩, .string ⟨#[55, 47, 52]⟩, .string ⟨#[45, 49]⟩, .string ⟨#[40]⟩, .string ⟨#[49, 47, 50]⟩, .string ⟨#[59, 32, 120]⟩, .string ⟨#[60, 49, 32, 50, 93]⟩, .string ⟨#[52]⟩, .string ⟨#[10]⟩, .string ⟨#[48]⟩, .string ⟨#[91, 49, 32, 50, 48, 48, 48, 62]⟩, .string ⟨#[49, 47, 48]⟩] 9) := ⟨_, rfl⟩
 obtain ⟨WB, hWB⟩ : ∃ WB, WB = w1.heap.size := ⟨_, rfl⟩
 have hba : Below w1.heap.size w1 W3 := by rw [hW3]; exact (Below.refl _ _).alloc (Nat.le_refl _) _
 have HWC : Hid (Cells W3 WB 9 (wordsTk.map fun s => .string ⟨s.toArray⟩)) := Lib.hid (by rw [hW3, hWB, ← words_vals]; exact Cells.new w1 9 #[.string ⟨#[112, 114, 105, 109, 101, 115]⟩, .string ⟨#[50]⟩, .string ⟨#[51]⟩, .string ⟨#[53]⟩, .string ⟨#[10]⟩, .string ⟨#[118, 111, 105, 99, 101]⟩, .string ⟨#[97]⟩, .string ⟨#[98, 50]⟩, .string ⟨#[49, 47, 52]⟩, .string ⟨#[58]⟩, .string ⟨#[10]⟩, .string ⟨#[91, 49, 32, 48, 32, 48, 62]⟩, .string ⟨#[51, 47, 50]⟩, .string ⟨#[10]⟩, .string ⟨#[91, 48, 32, 49, 62]⟩, .string ⟨#[55, 47, 52]⟩, .string ⟨#[45, 49]⟩, .string ⟨#[40]⟩, .string ⟨#[49, 47, 50]⟩, .string ⟨#[59, 32, 120]⟩, .string ⟨#[60, 49, 32, 50, 93]⟩, .string ⟨#[52]⟩, .string ⟨#[10]⟩, .string ⟨#[48]⟩, .string ⟨#[91, 49, 32, 50, 48, 48, 48, 62]⟩, .string ⟨#[49, 47, 48]⟩])
 have HB3 := Lib.hid (HB.out.trans (hba.mono HB.out.size))
 replace HS := Lib.hid (HS.out.below hba (Nat.le_refl _))
 replace HLI : Hid (LenIs W3) := Lib.hid (HLI.out.below hba)
 clear hba
 go_upto_region 4 with (fail)
 rw [← hW3, ← hWB]
 clear hW3 hWB
 go_wp2_with fail
 go_loopw [4, 5] (fun t i wr => ∃ k : Nat, k ≤ l0.length ∧ i = .int .i64 k ∧ t = .string ⟨(tkTo l0 k).toArray⟩ ∧ Below W3.heap.size W3 wr) (fun _ i _ => l0.length - (intOf i).toNat)
 case atStart => exact ⟨0, Nat.zero_le _, rfl, rfl, Below.refl _ _⟩
 case round =>
  obtain ⟨k, hk, rfl, rfl, hbw⟩ := hrel
  by_cases hlt : k < l0.length
  ·obtain ⟨b0, o0, rfl, hbl, hck, hn⟩ := HLA.out.u8 hlt
   have hwc := HWC.out.below hbw HWC.out.lt
   have hwd := (hwc.cell ((l0[k]'hlt) % 26)).trans (word_get (l0[k]'hlt))
   have hb3w := HB3.out.trans (hbw.mono HB3.out.size)
   have hck2 := keep_cell hck hb3w
   have hgk : l0[k]?.getD 0 = l0[k]'hlt := by rw [List.getElem?_eq_getElem hlt]; rfl
   have hln := tkTo_len l0 k
   have hwl := wordTk_len (l0[k]'hlt)
   have HNX : Box (tkHead l0 k (tkTo l0 k) ++ (wordTk (l0[k]'hlt) ++ [32]) = tkTo l0 (k + 1)) := ⟨by rw [tkTo, hgk]⟩
   have hki : (k : Int) < (l0.length : Int) := by omega
   have hk0 : (0 : Int) ≤ (k : Int) := by omega
   by_cases hk00 : k = 0
   ·subst hk00
    have hck3 := hck2
    rw [Nat.add_zero] at hck3
    have HH : Box (tkHead l0 0 (tkTo l0 0) = if (l0[0]'hlt) % 4 = 0 then [] else tkTo l0 0) := ⟨by unfold tkHead; rw [hgk]; simp⟩
    clear hgk hwc hck
    generalize l0[0]'hlt = n at *
    by_cases h4 : n % 4 = 0
    ·rw [HH.out, if_pos h4] at HNX
     have hr4 : (n : Int) % 4 = 0 := by omega
     clear HH h4
     generalize wordTk n = wd at *
     generalize tkTo l0 0 = t0 at *
     go_wp2_with fail
     go_roundw
     case rel => exact ⟨0 + 1, by omega, by go_num, congrArg Value.string ((ba_word [] wd [32]).trans (by rw [HNX.out])), hbw⟩
     case measure => simp [intOf]; omega
    ·rw [HH.out, if_neg h4] at HNX
     have hr4 : ((n : Int) % 4 == 0) = false := by simpa using (fun h : (n : Int) % 4 = 0 => h4 (by omega))
     clear HH h4
     generalize wordTk n = wd at *
     generalize tkTo l0 0 = t0 at *
     go_wp2_with fail
     go_roundw
     case rel => exact ⟨0 + 1, by omega, by go_num, congrArg Value.string ((ba_word t0 wd [32]).trans (by rw [HNX.out])), hbw⟩
     case measure => simp [intOf]; omega
   ·have HH : Box (tkHead l0 k (tkTo l0 k) = tkTo l0 k) := ⟨by unfold tkHead; rw [if_neg (fun h => hk00 h.1)]⟩
    have hkb : ((k : Int) == 0) = false := by simpa using hk00
    rw [HH.out] at HNX
    clear hgk hwc hck HH hk00
    generalize l0[k]'hlt = n at *
    generalize wordTk n = wd at *
    generalize tkTo l0 k = t0 at *
    go_wp2_with fail
    go_roundw
    case rel => exact ⟨k + 1, by omega, by go_num, congrArg Value.string ((ba_word t0 wd [32]).trans (by rw [HNX.out])), hbw⟩
    case measure => simp [intOf]; omega
  ·obtain rfl : k = l0.length := by omega
   have HT := Box.mk (tk_ok (l := l0) (k := l0.length) (by omega))
   have HSr := Lib.hid (HS.out.below hbw (Nat.le_refl _))
   have HLr : Hid (LenIs wr) := Lib.hid (HLI.out.below hbw)
   have HBr := Lib.hid (HB3.out.trans (hbw.mono HB3.out.size))
   clear hbw HWC
   generalize tkTo l0 l0.length = T at *
   have HEV := Box.mk (parseP_small T)
   have HPA := Lib.hid (fun W h1 h2 => scParse_any T W h1 h2 HT.out)
   have HPL := Lib.hid (fun W h1 h2 => parseL_any T W h1 h2 HT.out)
   generalize parseP T = res at *
   go_wp2_with fail
   refine (HPA.out _ HSr.out HLr.out).mono ?_
   rintro e w5 ⟨hp5, hb5⟩
   obtain ⟨pv, vv, rfl, hsv⟩ := hp5.parts
   obtain ⟨hpq, AV, cV, rfl, _, _, _⟩ := id hsv
   obtain ⟨AP, cp, rfl, _⟩ := hpq.shape
   obtain ⟨W6, hW6⟩ : ∃ W6, W6 = (w5.alloc (.cells #[.slice AP res.sc.primes.length cp, .slice AV res.sc.voices.length cV] 29)).alloc (.cells #[.int .i64 res.ln, .int .i64 res.co] 31) := ⟨_, rfl⟩
   obtain ⟨UB, hUB⟩ : ∃ UB, UB = w5.heap.size := ⟨_, rfl⟩
   have hb6 : Below w5.heap.size w5 W6 := by rw [hW6]; exact ((Below.refl _ _).alloc (Nat.le_refl _) _).alloc (by simp) _
   have HUC : Hid (Cells W6 UB 29 [.slice AP res.sc.primes.length cp, .slice AV res.sc.voices.length cV]) := Lib.hid (by rw [hW6, hUB]; exact (Cells.new w5 29 #[.slice AP res.sc.primes.length cp, .slice AV res.sc.voices.length cV]).alloc _)
   have HUP : Hid (Cells W6 (UB + 1) 31 [.int .i64 res.ln, .int .i64 res.co]) := Lib.hid (by
    have h := Cells.new (w5.alloc (.cells #[.slice AP res.sc.primes.length cp, .slice AV res.sc.voices.length cV] 29)) 31 #[.int .i64 res.ln, .int .i64 res.co]
    rw [World.size_alloc, ← hUB] at h
    rw [hW6]
    exact h)
   have hb56 := hb5.trans (hb6.mono hb5.size)
   have HSV := Lib.hid (hsv.lift hb6)
   replace HBr := Lib.hid (HBr.out.trans (hb56.mono HBr.out.size))
   replace HSr := Lib.hid (HSr.out.below hb56 (Nat.le_refl _))
   replace HLr : Hid (LenIs W6) := Lib.hid (HLr.out.below hb56)
   clear hb5 hb6 hb56 hsv hpq hp5 HPA
   go_upto_region 12 with (fail)
   rw [← hW6, ← hUB]
   clear hW6 hUB
   go_wp2_with fail
   refine (HPL.out _ HSr.out HLr.out).mono ?_
   rintro e w7 ⟨hp7, hb7⟩
   obtain ⟨qv, uv, rfl, hsw⟩ := hp7.parts
   obtain ⟨hpw, BV, dV, rfl, _, _, _⟩ := id hsw
   obtain ⟨BP, dp, rfl, _⟩ := hpw.shape
   obtain ⟨W8, hW8⟩ : ∃ W8, W8 = (w7.alloc (.cells #[.slice BP res.sc.primes.length dp, .slice BV res.sc.voices.length dV] 29)).alloc (.cells #[.int .i64 res.ln, .int .i64 res.co] 31) := ⟨_, rfl⟩
   obtain ⟨VB, hVB⟩ : ∃ VB, VB = w7.heap.size := ⟨_, rfl⟩
   have hb8 : Below w7.heap.size w7 W8 := by rw [hW8]; exact ((Below.refl _ _).alloc (Nat.le_refl _) _).alloc (by simp) _
   have HVC : Hid (Cells W8 VB 29 [.slice BP res.sc.primes.length dp, .slice BV res.sc.voices.length dV]) := Lib.hid (by rw [hW8, hVB]; exact (Cells.new w7 29 #[.slice BP res.sc.primes.length dp, .slice BV res.sc.voices.length dV]).alloc _)
   have HVP : Hid (Cells W8 (VB + 1) 31 [.int .i64 res.ln, .int .i64 res.co]) := Lib.hid (by
    have h := Cells.new (w7.alloc (.cells #[.slice BP res.sc.primes.length dp, .slice BV res.sc.voices.length dV] 29)) 31 #[.int .i64 res.ln, .int .i64 res.co]
    rw [World.size_alloc, ← hVB] at h
    rw [hW8]
    exact h)
   have hb78 := hb7.trans (hb8.mono hb7.size)
   have HSW := Lib.hid (hsw.lift hb8)
   replace HSV := Lib.hid (HSV.out.lift hb78)
   replace HUC := Lib.hid (HUC.out.below hb78 HUC.out.lt)
   replace HUP := Lib.hid (HUP.out.below hb78 HUP.out.lt)
   replace HBr := Lib.hid (HBr.out.trans (hb78.mono HBr.out.size))
   clear hb7 hb8 hb78 hsw hpw hp7 HPL HSr HLr
   go_upto_region 13 with (fail)
   rw [← hW8, ← hVB]
   clear hW8 hVB
   obtain ⟨x0, x1⟩ := cel2 HUC.out
   obtain ⟨y0, y1⟩ := cel2 HVC.out
   go_wp2_with fail
   refine (equal48_same _ _ _ _ res.sc _ HSV.out HSW.out HEV.out).mono ?_
   rintro e w9 ⟨rfl, hb9⟩
   replace HUP := Lib.hid (HUP.out.below hb9 HUP.out.lt)
   replace HVP := Lib.hid (HVP.out.below hb9 HVP.out.lt)
   replace HBr := Lib.hid (HBr.out.trans (hb9.mono HBr.out.size))
   clear hb9 x0 x1 y0 y1
   have hpe : ∀ W, (binOp .eql 31 (.agg #[.int .i64 res.ln, .int .i64 res.co]) (.agg #[.int .i64 res.ln, .int .i64 res.co])).run Tryz.prog W = .ok (.bool true) W := place_eql2 _ _
   obtain ⟨x0, x1⟩ := cel2 HUP.out
   obtain ⟨y0, y1⟩ := cel2 HVP.out
   generalize res.ln = rl at *
   generalize res.co = rc at *
   generalize res.er = re at *
   go_wp2_with fail
   go_ret
   exact ⟨rfl, HBr.out⟩

end Go.Proofs.YtaaeekahhhookaaGreatDoor
