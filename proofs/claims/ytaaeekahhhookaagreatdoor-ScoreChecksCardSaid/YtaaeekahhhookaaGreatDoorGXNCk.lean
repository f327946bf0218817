import Derived.Test.YtaaeekahhhookaaGreatDoorGXKCk
import Derived.Test.YtaaeekahhhookaaGreatDoorGXLCk
import Derived.Test.YtaaeekahhhookaaGreatDoorGXDMCk
import Derived.Test.YtaaeekahhhookaaGreatDoorGXFMCk
namespace Go.Proofs.YtaaeekahhhookaaGreatDoor
open Go.RowKit Go.Lib
def exTxt : List UInt8 := [112, 114, 105, 109, 101, 115, 32, 50, 32, 51, 32, 53, 10, 118, 111, 105, 99, 101, 32, 97, 10, 49, 47, 52, 32, 58, 32, 91, 48, 32, 48, 32, 48, 62, 32, 51, 47, 50, 10, 49, 47, 50, 32, 58, 10, 118, 111, 105, 99, 101, 32, 98, 10, 49, 47, 50, 32, 58, 32, 53, 47, 52, 32, 59, 32, 97, 32, 116, 104, 105, 114, 100, 10]
def exOut : List UInt8 := [112, 114, 105, 109, 101, 115, 32, 50, 32, 51, 32, 53, 10, 118, 111, 105, 99, 101, 32, 97, 10, 49, 47, 52, 32, 58, 32, 91, 48, 32, 48, 32, 48, 62, 32, 91, 45, 49, 32, 49, 32, 48, 62, 10, 49, 47, 50, 32, 58, 10, 118, 111, 105, 99, 101, 32, 98, 10, 49, 47, 50, 32, 58, 32, 91, 45, 50, 32, 48, 32, 49, 62, 10]
def exTxt2 : List UInt8 := [112, 114, 105, 109, 101, 115, 32, 50, 32, 52, 10]
def exSc : Sc := ⟨[2, 3, 5], [⟨[97], [⟨[49], [52], [[0, 0, 0], [-1, 1, 0]]⟩, ⟨[49], [50], []⟩]⟩, ⟨[98], [⟨[49], [50], [[-2, 0, 1]]⟩]⟩]⟩
def toksOf (t : List UInt8) : List Tok := match scanRead t with
 | .bad _ _ _ => []
 | .good l => l
set_option maxRecDepth 100000 in
theorem ex_scan : ∃ l, scanRead exTxt = .good l ∧ readP smP primeErr ntP l = .ok exSc := ⟨toksOf exTxt, by kernel_rfl, by kernel_rfl⟩
set_option maxRecDepth 100000 in
theorem ex_scan2 : ∃ l, scanRead exTxt2 = .good l ∧ readP smP primeErr ntP l = .error ⟨1, 1, 25⟩ := ⟨toksOf exTxt2, by kernel_rfl, by kernel_rfl⟩
theorem runs_of {s : List UInt8} {m N : Nat} (hl : s.length ≤ N) (h : (List.range N).all (fun k => decide (runLen numB (s.drop k) ≤ m)) = true) : ∀ k, runLen numB (s.drop k) ≤ m := fun k => by
 by_cases hk : k < N
 ·simpa using List.all_eq_true.1 h k (List.mem_range.2 hk)
 ·rw [List.drop_of_length_le (by omega)]
  exact Nat.zero_le _
set_option maxRecDepth 100000 in
theorem ex_ok : ScnOk exTxt := .of_short (by decide) (runs_of (N := 100) (by decide) (by decide +kernel))
set_option maxRecDepth 100000 in
theorem ex_ok2 : ScnOk exTxt2 := .of_short (by decide) (runs_of (N := 100) (by decide) (by decide +kernel))
set_option maxRecDepth 100000 in
theorem ex_t3 : t12 3 = ([49], [52]) := by decide +kernel
set_option maxRecDepth 100000 in
theorem ex_t6 : t12 6 = ([49], [50]) := by decide +kernel
set_option maxRecDepth 100000 in
theorem ex_t9 : t12 9 = ([51], [52]) := by decide +kernel
theorem exSc_err : scErr exSc = 0 := by
 have e3 := ex_t3
 have e6 := ex_t6
 unfold t12 at e3 e6
 injection e3 with a3 b3
 injection e6 with a6 b6
 have hp : primeErr exSc.primes = 0 := by kernel_rfl
 have ev : ∀ (d : Nat) (notes : List (List Int)), 0 < d → d ≤ 1000 → notes.length ≤ 12 → chkAll [2, 3, 5] notes = 0 → evErr [2, 3, 5] ⟨t12n d, t12d d, notes⟩ = 0 := fun d notes h0 h1 h2 h3 => by
  unfold evErr
  rw [if_pos (t12_frac (by omega)), if_pos (t12_pos h0), if_neg (by dsimp only; omega)]
  exact h3
 have h1 := ev 3 [[0, 0, 0], [-1, 1, 0]] (by decide) (by decide) (by decide) (by kernel_rfl)
 have h2 := ev 6 [] (by decide) (by decide) (by decide) (by kernel_rfl)
 have h3 := ev 6 [[-2, 0, 1]] (by decide) (by decide) (by decide) (by kernel_rfl)
 rw [a3, b3] at h1
 rw [a6, b6] at h2 h3
 unfold scErr
 rw [if_neg (by rw [hp]; simp), if_neg (by decide)]
 refine vcsErr_all _ [] fun k hk => ?_
 match k, hk with
 | 0, _ =>
   show vcErr [2, 3, 5] [] ⟨[97], [⟨[49], [52], [[0, 0, 0], [-1, 1, 0]]⟩, ⟨[49], [50], []⟩]⟩ = 0
   unfold vcErr
   rw [if_pos (by decide), if_neg (by decide), if_neg (by decide), evsErr, if_neg (by rw [h1]; simp), evsErr, if_neg (by rw [h2]; simp)]
   rfl
 | 1, _ =>
   show vcErr [2, 3, 5] [⟨[97], [⟨[49], [52], [[0, 0, 0], [-1, 1, 0]]⟩, ⟨[49], [50], []⟩]⟩] ⟨[98], [⟨[49], [50], [[-2, 0, 1]]⟩]⟩ = 0
   unfold vcErr
   rw [if_pos (by decide), if_neg (by decide), if_neg (by decide), evsErr, if_neg (by rw [h3]; simp)]
   rfl
theorem ex_parse : parseP exTxt = .ok exSc := by
 obtain ⟨l, h1, h2⟩ := ex_scan
 unfold parseP
 rw [h1]
 dsimp only
 rw [h2]
 dsimp only
 rw [if_pos exSc_err]
theorem ex_parse2 : parseP exTxt2 = .err 1 1 25 := by
 obtain ⟨l, h1, h2⟩ := ex_scan2
 unfold parseP
 rw [h1]
 dsimp only
 rw [h2]
def exDss : List (List Nat) := [[3, 6], [6]]
theorem exSc_times : ShortV exSc.voices exDss := by
 have e3 := ex_t3
 have e6 := ex_t6
 refine ⟨?_, by decide, by decide, by decide⟩
 unfold TimesV
 show _ = [[t12 3, t12 6], [t12 6]]
 rw [e3, e6]
 rfl
theorem exSc_sm : ScSm exSc := ⟨by decide, by decide, by decide, by decide⟩
set_option maxRecDepth 100000 in
theorem ex_slices : slcN exDss = [(0, 3, [(0, 0), (1, 0)]), (3, 6, [(0, 1), (1, 0)]), (6, 9, [(0, 1)])] := by decide +kernel
set_option maxRecDepth 100000 in
theorem ex_end : endOf exDss = 9 := by decide +kernel
set_option maxRecDepth 100000 in
theorem ex_lines : lnsT (scL exSc) = exOut ∧ lnsN (scL exSc) = 23 := by decide +kernel
theorem ex_print : prOut exSc = .tuple #[.string ⟨exOut.toArray⟩, .int .i64 0] := by
 unfold prOut
 rw [ex_lines.1, ex_lines.2, if_neg (by decide), if_neg (by decide)]
theorem ex_print_ok : (lnsT (scL exSc)).length ≤ 1000000 ∧ lnsN (scL exSc) ≤ 1000000 := by
 rw [ex_lines.1, ex_lines.2]
 exact ⟨by decide, by decide⟩
set_option maxRecDepth 100000 in
set_option maxHeartbeats 8000000 in
theorem known48 (w : World) (hS : Std w) (hL : LenIs w) :
  Calls Tryz.prog 6 #[] w fun e w' => e = .returned (.bool true) ∧ Below w.heap.size w w' := by
 have HS := Lib.hid hS
 have HLI : Hid (LenIs w) := Lib.hid hL
 have H1 := Lib.hid (fun W h1 h2 => scParse_any exTxt W h1 h2 ex_ok)
 have H5 := Lib.hid (fun W h1 h2 => scParse_any exTxt2 W h1 h2 ex_ok2)
 rw [ex_parse] at H1
 rw [ex_parse2] at H5
 have H2 := Lib.hid (fun pv vv W h1 h => scSlices_ok pv vv exSc exDss W h1 h exSc_sm exSc_err exSc_times)
 have H3 := Lib.hid (fun pv vv W h1 h => scPrint_ok pv vv exSc W h1 h exSc_sm exSc_err ex_print_ok.1 ex_print_ok.2)
 have H4 := Lib.hid (fun pv vv W h1 h => scLength_ok pv vv exSc exDss W h1 h exSc_sm exSc_err exSc_times)
 have e9 : t12n 9 = [51] ∧ t12d 9 = [52] := by
  have := ex_t9
  unfold t12 at this
  injection this with a b
  exact ⟨a, b⟩
 rw [ex_slices] at H2
 rw [ex_print] at H3
 rw [ex_end, e9.1, e9.2] at H4
 have hpe0 : ∀ W, (binOp .eql 31 (.agg #[.int .i64 0, .int .i64 0]) (.agg #[.int .i64 0, .int .i64 0])).run Tryz.prog W = .ok (.bool true) W := fun _ => by kernel_rfl
 have hpe1 : ∀ W, (binOp .eql 31 (.agg #[.int .i64 1, .int .i64 1]) (.agg #[.int .i64 1, .int .i64 1])).run Tryz.prog W = .ok (.bool true) W := fun _ => by kernel_rfl
 have hre : ∀ W, (binOp .eql 51 (.agg #[.string ⟨#[51]⟩, .string ⟨#[52]⟩]) (.agg #[.string ⟨#[51]⟩, .string ⟨#[52]⟩])).run Tryz.prog W = .ok (.bool true) W := fun _ => by kernel_rfl
 clear hS hL e9
 go_enter Tryz.func6, Tryz.ntmps6
 go_wp2_with fail
 refine (H1.out _ HS.out HLI.out).mono ?_
 rintro e w1 ⟨⟨pv, vv, rfl, hsv⟩, hb1⟩
 have hw1 := hb1.size
 obtain ⟨W1, hW1⟩ : ∃ W1, W1 = (w1.alloc (.cells #[pv, vv] 29)).alloc (.cells #[.int .i64 0, .int .i64 0] 31) := ⟨_, rfl⟩
 have hba : Below w1.heap.size w1 W1 := by rw [hW1]; exact ((Below.refl _ _).alloc (Nat.le_refl _) _).alloc (by simp) _
 have HCS : Hid (Cells W1 w1.heap.size 29 [pv, vv]) := Lib.hid (by rw [hW1]; exact (Cells.new w1 29 #[pv, vv]).alloc _)
 have HCP : Hid (Cells W1 (w1.heap.size + 1) 31 [.int .i64 0, .int .i64 0]) := Lib.hid (by
  have h := Cells.new (w1.alloc (.cells #[pv, vv] 29)) 31 #[.int .i64 0, .int .i64 0]
  rw [World.size_alloc] at h
  rw [hW1]
  exact h)
 have HSV := Lib.hid (hsv.lift hba)
 have HB := Lib.hid (hb1.trans (hba.mono hw1))
 replace HS := Lib.hid (HS.out.below HB.out (Nat.le_refl _))
 replace HLI := Lib.hid (HLI.out.below HB.out)
 obtain ⟨hpq, AV, cV, rfl, _⟩ := hsv
 obtain ⟨AP, cp, rfl, _⟩ := hpq.shape
 rw [show exSc.primes.length = 3 from rfl, show exSc.voices.length = 2 from rfl] at *
 obtain ⟨SB, hSB⟩ : ∃ SB, SB = w1.heap.size := ⟨_, rfl⟩
 have HSBw : Box (w.heap.size ≤ SB) := ⟨by omega⟩
 rw [← hSB] at HCS HCP
 clear hpq hba hb1 hw1
 obtain ⟨s0, s1⟩ := cel2 HCS.out
 go_upto_region 2 with (fail)
 rw [← hW1, ← hSB]
 clear hW1 hSB
 go_wp2_with fail
 refine (H2.out _ _ _ HS.out HSV.out).mono ?_
 rintro e w2 ⟨⟨sv, rfl, hsl⟩, hb2⟩
 obtain ⟨css, hlo⟩ := hsl
 obtain ⟨A2, c2, rfl, _, _, hlt⟩ := hlo.shape
 obtain ⟨b2, o2, cs0, e0, h01, _, _, h04, A3, c3, rfl, _, _, _⟩ := hlt.get 0 _ rfl
 obtain ⟨b3, o3, cs2, e2, h21, _, _, h24, A4, c4, rfl, _, _, _⟩ := hlt.get 2 _ rfl
 subst e0
 injection e2 with e2
 injection e2 with e2 e3
 subst e2 e3
 have g0 := h04 4 (by decide)
 have g2 := h24 4 (by decide)
 simp only [List.getElem?_cons_succ, List.getElem?_cons_zero] at g0 g2
 have HG0 := Lib.hid g0
 have HG2 := Lib.hid g2
 clear s0 s1 hlo hlt h01 h04 h21 h24 g0 g2
 replace HCS := Lib.hid (HCS.out.below hb2 HCS.out.lt)
 replace HCP := Lib.hid (HCP.out.below hb2 HCP.out.lt)
 replace HSV := Lib.hid (HSV.out.lift hb2)
 replace HB := Lib.hid (HB.out.trans (hb2.mono HB.out.size))
 replace HS := Lib.hid (HS.out.below hb2 (Nat.le_refl _))
 replace HLI := Lib.hid (HLI.out.below hb2)
 obtain ⟨s0, s1⟩ := cel2 HCS.out
 clear hb2
 go_wp2_with fail
 refine (H3.out _ _ _ HS.out HSV.out).mono ?_
 rintro e w3 ⟨rfl, hb3⟩
 replace HCS := Lib.hid (HCS.out.below hb3 HCS.out.lt)
 replace HCP := Lib.hid (HCP.out.below hb3 HCP.out.lt)
 replace HSV := Lib.hid (HSV.out.lift hb3)
 replace HB := Lib.hid (HB.out.trans (hb3.mono HB.out.size))
 replace HS := Lib.hid (HS.out.below hb3 (Nat.le_refl _))
 replace HLI := Lib.hid (HLI.out.below hb3)
 replace HG0 := Lib.hid (keep_cell HG0.out hb3)
 replace HG2 := Lib.hid (keep_cell HG2.out hb3)
 clear s0 s1 hb3
 obtain ⟨s0, s1⟩ := cel2 HCS.out
 go_wp2_with fail
 refine (H4.out _ _ _ HS.out HSV.out).mono ?_
 rintro e w4 ⟨rfl, hb4⟩
 obtain ⟨W4, hW4⟩ : ∃ W4, W4 = w4.alloc (.cells #[.string ⟨#[51]⟩, .string ⟨#[52]⟩] 51) := ⟨_, rfl⟩
 have hba : Below w4.heap.size w4 W4 := by rw [hW4]; exact (Below.refl _ _).alloc (Nat.le_refl _) _
 obtain ⟨XB, hXB⟩ : ∃ XB, XB = w4.heap.size := ⟨_, rfl⟩
 have HXB : Hid (Cells W4 XB 51 [.string ⟨#[51]⟩, .string ⟨#[52]⟩]) := Lib.hid (by rw [hW4, hXB]; exact Cells.new w4 51 #[.string ⟨#[51]⟩, .string ⟨#[52]⟩])
 have hb44 := hb4.trans (hba.mono hb4.size)
 replace HCP := Lib.hid (HCP.out.below hb44 HCP.out.lt)
 replace HB := Lib.hid (HB.out.trans (hb44.mono HB.out.size))
 replace HS := Lib.hid (HS.out.below hb44 (Nat.le_refl _))
 replace HLI := Lib.hid (HLI.out.below hb44)
 replace HG0 := Lib.hid (keep_cell HG0.out hb44)
 replace HG2 := Lib.hid (keep_cell HG2.out hb44)
 clear s0 s1 hb4 hba hb44 HCS HSV
 go_upto_region 5 with (fail)
 rw [← hW4, ← hXB]
 clear hW4 hXB
 go_wp2_with fail
 refine (H5.out _ HS.out HLI.out).mono ?_
 rintro e w5 ⟨he, hb5⟩
 obtain rfl := show e = .returned (.tuple #[.agg #[.slice Option.none 0 0, .slice Option.none 0 0], .agg #[.int .i64 1, .int .i64 1], .int .i64 25]) from he
 obtain ⟨W5, hW5⟩ : ∃ W5, W5 = (w5.alloc (.cells #[.slice Option.none 0 0, .slice Option.none 0 0] 29)).alloc (.cells #[.int .i64 1, .int .i64 1] 31) := ⟨_, rfl⟩
 have hba : Below w5.heap.size w5 W5 := by rw [hW5]; exact ((Below.refl _ _).alloc (Nat.le_refl _) _).alloc (by simp) _
 obtain ⟨YB, hYB⟩ : ∃ YB, YB = w5.heap.size + 1 := ⟨_, rfl⟩
 have HYB : Hid (Cells W5 YB 31 [.int .i64 1, .int .i64 1]) := Lib.hid (by
  have h := Cells.new (w5.alloc (.cells #[.slice Option.none 0 0, .slice Option.none 0 0] 29)) 31 #[.int .i64 1, .int .i64 1]
  rw [World.size_alloc] at h
  rw [hW5, hYB]
  exact h)
 have hb55 := hb5.trans (hba.mono hb5.size)
 have hcp := HCP.out.below hb55 HCP.out.lt
 have hxb := HXB.out.below hb55 HXB.out.lt
 have g0 := keep_cell HG0.out hb55
 have g2 := keep_cell HG2.out hb55
 obtain ⟨p0, p1⟩ := cel2 hcp
 obtain ⟨x0, x1⟩ := cel2 hxb
 obtain ⟨y0, y1⟩ := cel2 HYB.out
 have HBF := Lib.hid (HB.out.trans (hb55.mono HB.out.size))
 clear hb5 hba hb55 hcp hxb HCP HXB HYB HG0 HG2 HS HLI HB he
 go_upto_region 6 with (fail)
 rw [← hW5, ← hYB]
 clear hW5 hYB
 go_wp2_with fail
 go_ret
 exact ⟨rfl, HBF.out⟩
end Go.Proofs.YtaaeekahhhookaaGreatDoor
