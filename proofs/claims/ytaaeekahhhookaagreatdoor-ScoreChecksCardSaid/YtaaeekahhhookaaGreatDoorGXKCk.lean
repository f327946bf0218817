import Derived.Test.YtaaeekahhhookaaGreatDoorGQCk
import Derived.Test.YtaaeekahhhookaaGreatDoorGXGCk
import Derived.Test.YtaaeekahhhookaaGreatDoorGXQMCk
import Derived.Test.YtaaeekahhhookaaGreatDoorGXPMCk
import Derived.Test.YtaaeekahhhookaaGreatDoorGXJCk
import Derived.Test.YtaaeekahhhookaaGreatDoorGXAMCk
import Derived.Test.YtaaeekahhhookaaGreatDoorGOMCk
namespace Go.Proofs.YtaaeekahhhookaaGreatDoor
open Go.RowKit Go.Lib
def Within (s u : List UInt8) : Prop := ∃ a b, s = a ++ (u ++ b)
theorem Within.refl (s : List UInt8) : Within s s := ⟨[], [], by simp⟩
theorem Within.trans {s u v : List UInt8} (h : Within s u) (h2 : Within u v) : Within s v := by
 obtain ⟨a, b, rfl⟩ := h
 obtain ⟨c, d, rfl⟩ := h2
 exact ⟨a ++ c, d ++ b, by simp [List.append_assoc]⟩
theorem Within.take (u : List UInt8) (n : Nat) : Within u (u.take n) := ⟨[], u.drop n, by simp⟩
theorem Within.drop (u : List UInt8) (n : Nat) : Within u (u.drop n) := ⟨u.take n, [], by simp⟩
theorem Within.len {s u : List UInt8} (h : Within s u) : u.length ≤ s.length := by
 obtain ⟨a, b, rfl⟩ := h
 simp
 omega
theorem cutAll_within (b : UInt8) : ∀ s, ∃ p r, cutAll b s = p :: r ∧ (∃ x, s = p ++ x) ∧ ∀ q ∈ r, Within s q
 | [] => ⟨[], [], rfl, ⟨[], rfl⟩, by simp⟩
 | c :: t => by
   obtain ⟨p, r, e, ⟨x, hx⟩, hr⟩ := cutAll_within b t
   have hst : Within (c :: t) t := ⟨[c], [], by simp⟩
   by_cases h : c = b
   ·subst h
    refine ⟨[], cutAll c t, cutAll_hit c t, ⟨_, rfl⟩, fun q hq => ?_⟩
    rw [e] at hq
    rcases List.mem_cons.1 hq with rfl | hq
    ·exact hst.trans ⟨[], x, by simpa using hx⟩
    ·exact hst.trans (hr q hq)
   ·exact ⟨c :: p, r, cutAll_miss h e, ⟨x, by rw [hx]; rfl⟩, fun q hq => hst.trans (hr q hq)⟩
theorem cutAll_mem {b : UInt8} {s q : List UInt8} (h : q ∈ cutAll b s) : Within s q := by
 obtain ⟨p, r, e, ⟨x, hx⟩, hr⟩ := cutAll_within b s
 rw [e] at h
 rcases List.mem_cons.1 h with rfl | h
 ·exact ⟨[], x, by simpa using hx⟩
 ·exact hr q h
theorem cutSemi_within (s : List UInt8) : Within s (cutSemi s) := ⟨[], s.dropWhile (fun c => c != 59), by unfold cutSemi; rw [List.takeWhile_append_dropWhile]; rfl⟩
theorem runLen_pre (p : UInt8 → Bool) : ∀ (x y : List UInt8), runLen p x ≤ runLen p (x ++ y)
 | [], _ => Nat.zero_le _
 | c :: t, y => by
   have ih := runLen_pre p t y
   rw [List.cons_append, runLen, runLen]
   split
   ·omega
   ·exact Nat.le_refl _
theorem runLen_within {p : UInt8 → Bool} {s u : List UInt8} {m : Nat} (h : Within s u) (hs : ∀ k, runLen p (s.drop k) ≤ m) : ∀ k, runLen p (u.drop k) ≤ m := by
 intro k
 obtain ⟨a, b, e⟩ := h.trans (Within.drop u k)
 have h1 := hs a.length
 rw [e, List.drop_left' rfl] at h1
 exact Nat.le_trans (runLen_pre p _ b) h1
theorem nextRead_pos {u : List UInt8} {kd : Int} {t n d : List UInt8} {x : List Int} {m : Nat} (h0 : 0 < u.length) (h : nextRead u = .good kd t n d x m) : 1 ≤ m := by
 unfold nextRead at h
 split at h
 ·rename_i hl
  obtain ⟨c, r, rfl⟩ : ∃ c r, u = c :: r := by cases u with | nil => simp at h0 | cons c r => exact ⟨c, r, rfl⟩
  have hp : partB c = true := by
   have : letB c = true := hl
   unfold partB
   rw [this]
   rfl
  unfold wordRead at h
  split at h
  ·cases h
  ·injection h with _ _ _ _ _ h
   rw [← h, runLen, if_pos hp]
   omega
 ·split at h
  ·unfold numRead at h
   cases hf : fracOf (u.take (numLen u)) with
   | bad e => rw [hf] at h; cases h
   | good N D =>
     rw [hf] at h
     injection h with _ _ _ _ _ h
     rw [← h]
     unfold numLen
     omega
  ·split at h
   ·unfold brackRead at h
    split at h
    ·cases h
    ·rename_i hb
     cases hr : rowRead (u.take (brackLen u)) with
     | bad e => rw [hr] at h; cases h
     | good y k =>
       rw [hr] at h
       injection h with _ _ _ _ _ h
       rw [← h, List.length_take]
       omega
   ·split at h
    ·injection h with _ _ _ _ _ h
     omega
    ·cases h
theorem rowRead_len {s : List UInt8} {x : List Int} {k : Bool} (h : rowRead s = .good x k) : x.length ≤ s.length + 1 := by
 have hin : ∀ (l : List UInt8) (b : Bool), innerRead l b = .good x k → x.length ≤ l.length + 1 := by
  intro l b hl
  unfold innerRead at hl
  split at hl
  ·injection hl with hl
   rw [← hl]
   exact Nat.zero_le _
  ·split at hl
   ·cases hl
   ·split at hl
    ·injection hl with hl
     rw [← hl, List.length_map]
     have h1 : ∀ ws : List (List UInt8), ws.length ≤ sumL ws := by
      intro ws
      induction ws with
      | nil => exact Nat.zero_le _
      | cons a r ih => rw [sumL_cons, List.length_cons]; omega
     have h2 := h1 (cutAll 32 l)
     rw [cutAll_sum] at h2
     exact h2
    ·cases hl
 have hen : ∀ (l : List UInt8) (b : Bool), endRead l b = .good x k → x.length ≤ l.length + 1 := by
  intro l b hl
  unfold endRead at hl
  generalize (if b then (62 : UInt8) else 93) = q at hl
  split at hl
  ·have h1 := hin _ _ hl
   have h2 := trimSuf_len l [q]
   omega
  ·cases hl
 unfold rowRead at h
 split at h
 ·cases h
 ·split at h
  ·have h1 := hen _ _ h
   have h2 := trimPre_len s [91]
   omega
  ·split at h
   ·have h1 := hen _ _ h
    have h2 := trimPre_len s [60]
    omega
   ·cases h
theorem nextRead_fit {u : List UInt8} {kd : Int} {t n d : List UInt8} {x : List Int} {m : Nat} (i k : Int) (hr : ∀ k, runLen numB (u.drop k) ≤ 38) (h : nextRead u = .good kd t n d x m) :
  x.length ≤ u.length + 1 ∧ (kd = 2 → NumTok ⟨kd, t, n, d, x, i, k⟩) ∧ (kd = 1 → t ≠ [58] ∧ t.length ≤ 32) := by
 unfold nextRead at h
 split at h
 ·rename_i hl
  unfold wordRead at h
  split at h
  ·cases h
  ·injection h with h1 h2 _ _ h3 _
   subst h1 h2 h3
   refine ⟨Nat.zero_le _, fun e => absurd e (by decide), fun _ => ⟨fun e => ?_, by rw [List.length_take]; omega⟩⟩
   cases u with
   | nil => simp [runLen] at e
   | cons c r =>
     have hp : partB c = true := by
      have : letB c = true := hl
      unfold partB
      rw [this]
      rfl
     rw [runLen, if_pos hp, List.take_succ_cons] at e
     injection e with e _
     rw [e] at hl
     have hl2 : letB 58 = true := hl
     revert hl2
     decide
 ·split at h
  ·unfold numRead at h
   cases hf : fracOf (u.take (numLen u)) with
   | bad e => rw [hf] at h; cases h
   | good N D =>
     rw [hf, numTok_good] at h
     injection h with h1 h2 h3 h4 h5 h6
     subst h1 h3 h4 h5
     have hnl : (u.take (numLen u)).length ≤ 40 := by
      have := hr 1
      rw [List.length_take]
      unfold numLen
      omega
     obtain ⟨hD, hN1, hD1⟩ := fracOf_short hnl hf
     obtain ⟨g1, g2⟩ := low_pos (n := sgnd (isNeg (u.take (numLen u))) N) (d := (D : Int)) (by omega)
     have hs : (sgnd (isNeg (u.take (numLen u))) N).natAbs = N := by unfold sgnd; split <;> simp
     obtain ⟨g3, g4⟩ := low_len (n := sgnd (isNeg (u.take (numLen u))) N) (d := (D : Int)) (k := 41) (by rw [hs]; omega) (by simpa using hD1)
     exact ⟨Nat.zero_le _, fun _ => ⟨_, _, rfl, rfl, g1, g2, by omega, by omega⟩, fun e => absurd e (by decide)⟩
  ·split at h
   ·unfold brackRead at h
    split at h
    ·cases h
    ·cases hrr : rowRead (u.take (brackLen u)) with
     | bad e => rw [hrr] at h; cases h
     | good y b =>
       rw [hrr] at h
       injection h with h1 h2 h3 h4 h5 h6
       subst h1 h5
       have hl := rowRead_len hrr
       rw [List.length_take] at hl
       refine ⟨by omega, fun e => ?_, fun e => ?_⟩
       ·unfold brackKind at e
        split at e <;> omega
       ·unfold brackKind at e
        split at e <;> omega
   ·split at h
    ·injection h with h1 h2 h3 h4 h5 h6
     subst h1 h5
     exact ⟨Nat.zero_le _, fun e => absurd e (by decide), fun e => absurd e (by decide)⟩
    ·cases h
theorem lineRead_mem {i : Nat} {ln : List UInt8} {P : Tok → Prop} (hP : ∀ k kd t n d x m, k < ln.length → nextRead (ln.drop k) = .good kd t n d x m → P ⟨kd, t, n, d, x, i + 1, k + 1⟩) : ∀ (g k : Nat) (acc l : List Tok), (∀ t ∈ acc, P t) → lineRead i ln g k acc = .good l → ∀ t ∈ l, P t
 | 0, _, acc, l, ha, h => by injection h with h; subst h; exact ha
 | g + 1, k, acc, l, ha, h => by
   by_cases hlt : k < ln.length
   ·rw [lineRead, if_pos hlt] at h
    by_cases hb : blankB (ln[k]?.getD 0) = true
    ·rw [if_pos hb] at h
     exact lineRead_mem hP g _ _ _ ha h
    ·rw [if_neg hb] at h
     cases hn : nextRead (ln.drop k) with
     | bad e => rw [hn] at h; cases h
     | good kd t n d x m =>
       rw [hn, lineStep_good] at h
       by_cases hf : acc.length = 4000
       ·rw [if_pos hf] at h; cases h
       ·rw [if_neg hf] at h
        refine lineRead_mem hP g _ _ _ (fun u hu => ?_) h
        rcases List.mem_append.1 hu with hu | hu
        ·exact ha u hu
        ·simp at hu
         subst hu
         exact hP k kd t n d x m hlt hn
   ·rw [lineRead_end hlt] at h
    injection h with h
    subst h
    exact ha
theorem lineRead_count {i : Nat} {ln : List UInt8} : ∀ (g k : Nat) (acc l : List Tok), lineRead i ln g k acc = .good l → l.length ≤ acc.length + (ln.length - k)
 | 0, _, acc, l, h => by injection h with h; subst h; omega
 | g + 1, k, acc, l, h => by
   by_cases hlt : k < ln.length
   ·rw [lineRead, if_pos hlt] at h
    by_cases hb : blankB (ln[k]?.getD 0) = true
    ·rw [if_pos hb] at h
     have := lineRead_count g _ _ _ h
     omega
    ·rw [if_neg hb] at h
     cases hn : nextRead (ln.drop k) with
     | bad e => rw [hn] at h; cases h
     | good kd t n d x m =>
       rw [hn, lineStep_good] at h
       have hm := nextRead_pos (by rw [List.length_drop]; omega) hn
       by_cases hf : acc.length = 4000
       ·rw [if_pos hf] at h; cases h
       ·rw [if_neg hf] at h
        have := lineRead_count g _ _ _ h
        rw [List.length_append, List.length_singleton] at this
        omega
   ·rw [lineRead_end hlt] at h
    injection h with h
    subst h
    omega
theorem linesRead_mem {P : Tok → Prop} : ∀ (ws : List (List UInt8)) (i : Nat) (acc l : List Tok), (∀ w ∈ ws, ∀ (i : Nat) k kd t n d x m, k < (cutSemi w).length → nextRead ((cutSemi w).drop k) = .good kd t n d x m → P ⟨kd, t, n, d, x, i + 1, k + 1⟩) → (∀ (i : Nat) w, P (endTok i w)) → (∀ t ∈ acc, P t) → linesRead i ws acc = .good l → (∀ t ∈ l, P t) ∧ l.length ≤ acc.length + sumL ws
 | [], _, acc, l, _, _, ha, h => by injection h with h; subst h; exact ⟨ha, Nat.le_add_right _ _⟩
 | w :: r, i, acc, l, hP, hE, ha, h => by
   cases hl : lineRead i (cutSemi w) (w.length + 1) 0 acc with
   | bad c e => rw [linesRead_bad hl] at h; cases h
   | good m =>
     have hm := lineRead_mem (hP w (by simp) i) _ _ _ _ ha hl
     have hc := lineRead_count _ _ _ _ hl
     have hct := (cutSemi_within w).len
     have hPr : ∀ v ∈ r, ∀ (i : Nat) k kd t n d x m, k < (cutSemi v).length → nextRead ((cutSemi v).drop k) = .good kd t n d x m → P ⟨kd, t, n, d, x, i + 1, k + 1⟩ := fun v hv => hP v (by simp [hv])
     rw [sumL_cons]
     by_cases hs : m.length = acc.length
     ·rw [linesRead_same hl hs] at h
      obtain ⟨h1, h2⟩ := linesRead_mem r (i + 1) m l hPr hE hm h
      exact ⟨h1, by omega⟩
     ·by_cases h4 : m.length = 4000
      ·rw [linesRead_full hl hs h4] at h; cases h
      ·rw [linesRead_more hl hs h4] at h
       obtain ⟨h1, h2⟩ := linesRead_mem r (i + 1) _ l hPr hE (fun u hu => by
        rcases List.mem_append.1 hu with hu | hu
        ·exact hm u hu
        ·simp at hu
         subst hu
         exact hE i w) h
       rw [List.length_append, List.length_singleton] at h2
       exact ⟨h1, by omega⟩
theorem scan_fits {s : List UInt8} {l : List Tok} (hs : s.length ≤ 900) (hr : ∀ k, runLen numB (s.drop k) ≤ 38) (h : scanRead s = .good l) :
  l.length ≤ 1000 ∧ (∀ t ∈ l, t.row.length ≤ 1000) ∧ (∀ t ∈ l, t.kind = 2 → NumTok t) ∧ ∀ t ∈ l, t.kind = 1 → t.text ≠ [58] ∧ t.text.length ≤ 32 := by
 unfold scanRead at h
 rw [if_neg (by omega)] at h
 obtain ⟨h1, h2⟩ := linesRead_mem (P := fun t => t.row.length ≤ 1000 ∧ (t.kind = 2 → NumTok t) ∧ (t.kind = 1 → t.text ≠ [58] ∧ t.text.length ≤ 32)) (cutAll 10 s) 0 [] l (fun w hw i k kd t n d x m hk hn => by
   have hin : Within s ((cutSemi w).drop k) := ((cutAll_mem hw).trans (cutSemi_within w)).trans (Within.drop _ k)
   obtain ⟨g1, g2, g3⟩ := nextRead_fit (i + 1) (k + 1) (runLen_within hin hr) hn
   have := hin.len
   exact ⟨by show x.length ≤ 1000; omega, g2, g3⟩)
  (fun i w => ⟨Nat.zero_le _, fun e => absurd e (show ¬ (6 : Int) = 2 by decide), fun e => absurd e (show ¬ (6 : Int) = 1 by decide)⟩) (by simp) h
 rw [cutAll_sum] at h2
 exact ⟨by simp at h2; omega, fun t ht => (h1 t ht).1, fun t ht => (h1 t ht).2.1, fun t ht => (h1 t ht).2.2⟩
def ScanPostT (w' : World) : Srd → Ending → Prop
 | .bad l c er, e => e = .returned (.tuple #[.slice Option.none 0 0, .agg #[.int .i64 l, .int .i64 c], .int .i64 er])
 | .good t, e => ∃ A c base, e = .returned (.tuple #[.slice A t.length c, .agg #[.int .i64 0, .int .i64 0], .int .i64 0]) ∧ Toks w' base (.slice A t.length c) t
set_option maxRecDepth 100000 in
theorem scan_longT (s : List UInt8) (w : World) (hl : 65536 < s.length) (hl2 : s.length ≤ 100000) :
  Calls Tryz.prog 26 #[.string ⟨s.toArray⟩] w fun e w' => ScanPostT w' (.bad 1 1 16) e ∧ Below w.heap.size w w' := by
 go_enter Tryz.func26, Tryz.ntmps26
 go_wp2_with fail
 refine bodyPost_ret (v := .tuple #[.slice Option.none 0 0, .agg #[.int .i64 1, .int .i64 1], .int .i64 16]) (by simp [results, Tryz.results26, go_sem]) rfl ⟨rfl, ?_⟩
 exact (Below.refl _ _).alloc (Nat.le_refl _) _
set_option maxRecDepth 100000 in
set_option maxHeartbeats 8000000 in
theorem scan_mainT (s : List UInt8) (w : World) (hS : Std w) (hL : LenIs w) (hl : s.length ≤ 65536) :
  Calls Tryz.prog 26 #[.string ⟨s.toArray⟩] w fun e w' => ScanPostT w' (linesRead 0 (cutAll 10 s) []) e ∧ Below w.heap.size w w' := by
 obtain ⟨i0, hi0, hz0, hz1, hz2⟩ := info_parts Tryz.info_tok
 have hL' := hL
 obtain ⟨m, hm⟩ := hL'
 have HM := Lib.hid hm
 have HSP := Lib.hid (fun W hm => splitAt_any 10 s m W (by omega) hm)
 have HS := Lib.hid hS
 have HLI := Lib.hid hL
 have hcl : (cutAll 10 s).length ≤ 65537 := by have := cutAll_len 10 s; omega
 have HPL : Box (∀ k, k < (cutAll 10 s).length → ((cutAll 10 s)[k]?.getD []).length ≤ 65536) := ⟨fun k hk => by have := cutAll_piece 10 s _ (List.getElem_mem hk); rw [List.getElem?_eq_getElem hk]; simp only [Option.getD_some]; omega⟩
 have hli : (s.length : Int) ≤ 65536 := by omega
 clear hS hL hm hl
 generalize cutAll 10 s = ws at *
 have HR0 : Box (linesRead 0 (ws.drop 0) [] = linesRead 0 ws []) := ⟨by rw [List.drop_zero]⟩
 generalize linesRead 0 ws [] = R at *
 go_enter Tryz.func26, Tryz.ntmps26
 go_wp2_with fail
 refine (HSP.out _ ((((Below.refl _ _).alloc (Nat.le_refl _) _).cell (cell_lt HM.out)).trans HM.out)).mono ?_
 rintro e w1 ⟨B, rfl, hww, hb1⟩
 rw [World.size_alloc] at hb1
 have HW := Lib.hid hww
 have HB1 := Lib.hid hb1
 have hbw := below_result hb1
 replace HS := Lib.hid (HS.out.below hbw (Nat.le_refl _))
 replace HLI := Lib.hid (HLI.out.below hbw)
 clear hww hb1 HSP HM
 have HBW := Lib.hid hbw
 clear hbw
 go_wp2_with fail
 go_loopw [2, 23] (fun lv i wr => ∃ (k : Nat) (acc : List Tok), k ≤ ws.length ∧ i = .int .i64 k ∧ Toks wr w1.heap.size lv acc ∧ Below w1.heap.size w1 wr ∧ Box (linesRead k (ws.drop k) acc = R) ∧ acc.length ≤ 4000) (fun _ i _ => ws.length - (intOf i).toNat)
 case atStart => exact ⟨0, [], Nat.zero_le _, rfl, Toks.nil _ _, Below.refl _ _, HR0, by simp⟩
 case round =>
  obtain ⟨k, acc, hk, rfl, htk, hbk, HRk, hacc⟩ := hrel
  have HT := Lib.hid htk
  have HBK := Lib.hid hbk
  clear htk hbk
  by_cases hlt : k < ws.length
  ·have hc := (HW.out.below HBK.out).2 k hlt
   have hpl := HPL.out k hlt
   have HD := Lib.hid (drop_at hlt [])
   generalize ws[k]?.getD [] = full at *
   have hln := cutSemi_len full
   have HCT := Lib.hid (fun W h => content_any full W h (by omega))
   obtain ⟨RL, HRL⟩ : ∃ RL, Box (lineRead k (cutSemi full) (full.length + 1) 0 acc = RL) := ⟨_, ⟨rfl⟩⟩
   have HQB : Box (∀ c e, RL = .bad c e → R = .bad (k + 1) c e) := ⟨fun c e h => by rw [← HRk.out, HD.out, linesRead_bad (HRL.out.trans h)]⟩
   have HQS : Box (∀ l, RL = .good l → l.length = acc.length → linesRead (k + 1) (ws.drop (k + 1)) l = R) := ⟨fun l h h2 => by rw [← HRk.out, HD.out, linesRead_same (HRL.out.trans h) h2]⟩
   have HQF : Box (∀ l, RL = .good l → l.length ≠ acc.length → l.length = 4000 → R = .bad (k + 1) (full.length + 1) 4) := ⟨fun l h h2 h3 => by rw [← HRk.out, HD.out, linesRead_full (HRL.out.trans h) h2 h3]⟩
   have HQM : Box (∀ l, RL = .good l → l.length ≠ acc.length → l.length ≠ 4000 → linesRead (k + 1) (ws.drop (k + 1)) (l ++ [endTok k full]) = R) := ⟨fun l h h2 h3 => by rw [← HRk.out, HD.out, linesRead_more (HRL.out.trans h) h2 h3]⟩
   clear HRk HD
   generalize cutSemi full = ln at *
   generalize u2 = lv0 at *
   generalize wr = wo at *
   go_wp2_with fail
   refine (HCT.out _ (HLI.out.below HBK.out)).mono ?_
   rintro e w4 ⟨rfl, hb4⟩
   replace HT := Lib.hid (HT.out.below hb4)
   replace HBK := Lib.hid (HBK.out.trans (hb4.mono HBK.out.size))
   clear hb4 hc
   go_wp2_with fail
   go_loopw [2, 8, 9] (fun lv fd j wr => ∃ (c g : Nat) (l : List Tok), c ≤ ln.length ∧ j = .int .i64 c ∧ ln.length + 1 ≤ c + g ∧ Toks wr w1.heap.size lv l ∧ Below w1.heap.size w1 wr ∧ Box (lineRead k ln g c l = RL) ∧ acc.length ≤ l.length ∧ l.length ≤ 4000 ∧ fd = .bool (decide (l.length ≠ acc.length))) (fun _ _ j _ => ln.length - (intOf j).toNat)
   case atStart => exact ⟨0, full.length + 1, acc, Nat.zero_le _, rfl, by omega, HT.out, HBK.out, HRL, Nat.le_refl _, hacc, by simp⟩
   case round =>
    clear HT HBK
    obtain ⟨c, g, l, hcl2, rfl, hcg, htk, hbk, HRc, hal, hl4, rfl⟩ := hrel
    obtain ⟨LA, LC, _, hlv, _⟩ := htk.isToks
    subst hlv
    have HT := Lib.hid htk
    have HBK := Lib.hid hbk
    clear htk hbk
    by_cases hlc : c < ln.length
    ·obtain ⟨g, rfl⟩ : ∃ g', g = g' + 1 := ⟨g - 1, by omega⟩
     have hx := ba_at ln c
     have HBB : Box (blankB (ln[c]?.getD 0) = (decide ((ln[c]?.getD 0).toNat = 32) || decide ((ln[c]?.getD 0).toNat = 9) || decide ((ln[c]?.getD 0).toNat = 13))) := ⟨by
      unfold blankB
      rw [show (32 : UInt8) = UInt8.ofNat 32 from rfl, show (9 : UInt8) = UInt8.ofNat 9 from rfl, show (13 : UInt8) = UInt8.ofNat 13 from rfl, u8_beq _ _ (by omega), u8_beq _ _ (by omega), u8_beq _ _ (by omega)]⟩
     have HL1 : Box (blankB (ln[c]?.getD 0) = true → lineRead k ln g (c + 1) l = RL) := ⟨fun h => by rw [← HRc.out, lineRead_blank hlc h]⟩
     have HL2 : Box (∀ e, blankB (ln[c]?.getD 0) = false → nextRead (ln.drop c) = .bad e → RL = .bad (c + 1) e) := ⟨fun e h1 h2 => by rw [← HRc.out, lineRead_bad hlc h1 h2]⟩
     have HL3 : Box (∀ kd t n d x m, blankB (ln[c]?.getD 0) = false → nextRead (ln.drop c) = .good kd t n d x m → l.length = 4000 → RL = .bad (c + 1) 4) := ⟨fun kd t n d x m h1 h2 h3 => by rw [← HRc.out, lineRead_full hlc h1 h2 h3]⟩
     have HL4 : Box (∀ kd t n d x m, blankB (ln[c]?.getD 0) = false → nextRead (ln.drop c) = .good kd t n d x m → l.length ≠ 4000 → lineRead k ln g (c + m) (l ++ [⟨kd, t, n, d, x, k + 1, c + 1⟩]) = RL) := ⟨fun kd t n d x m h1 h2 h3 => by rw [← HRc.out, lineRead_more hlc h1 h2 h3]⟩
     generalize ln[c]?.getD 0 = ch at *
     clear HRc
     cases hbl : blankB ch with
     | true =>
       have HL1' := HL1.out hbl
       rw [hbl] at HBB
       have H3 : Box (ch.toNat = 32 ∨ ch.toNat = 9 ∨ ch.toNat = 13) := ⟨by have := HBB.out; simp at this; omega⟩
       clear HL1 HL2 HL3 HL4 HBB hbl
       have HR1 : Box (lineRead k ln g (c + 1) l = RL) := ⟨HL1'⟩
       clear HL1'
       rcases H3.out with h3 | h3 | h3
       ·have q1 : ((ch.toNat : Int) == 32) = true := by rw [h3]; rfl
        clear h3
        go_wp2_with fail
        go_roundw
        case rel => exact ⟨c + 1, g, l, by omega, by go_num, by omega, HT.out, HBK.out, HR1, hal, hl4, rfl⟩
        case measure => simp [intOf]; omega
       ·have q1 : ((ch.toNat : Int) == 32) = false := by rw [h3]; rfl
        have q2 : ((ch.toNat : Int) == 9) = true := by rw [h3]; rfl
        clear h3
        go_wp2_with fail
        go_roundw
        case rel => exact ⟨c + 1, g, l, by omega, by go_num, by omega, HT.out, HBK.out, HR1, hal, hl4, rfl⟩
        case measure => simp [intOf]; omega
       ·have q1 : ((ch.toNat : Int) == 32) = false := by rw [h3]; rfl
        have q2 : ((ch.toNat : Int) == 9) = false := by rw [h3]; rfl
        have q3 : ((ch.toNat : Int) == 13) = true := by rw [h3]; rfl
        clear h3
        go_wp2_with fail
        go_roundw
        case rel => exact ⟨c + 1, g, l, by omega, by go_num, by omega, HT.out, HBK.out, HR1, hal, hl4, rfl⟩
        case measure => simp [intOf]; omega
     | false =>
       rw [hbl] at HBB
       have H3 : Box (ch.toNat ≠ 32 ∧ ch.toNat ≠ 9 ∧ ch.toNat ≠ 13) := ⟨by have := HBB.out; simp at this; omega⟩
       obtain ⟨n1, n2, n3⟩ := H3.out
       have q1 : ((ch.toNat : Int) == 32) = false := by rw [beq_eq_false_iff_ne]; omega
       have q2 : ((ch.toNat : Int) == 9) = false := by rw [beq_eq_false_iff_ne]; omega
       have q3 : ((ch.toNat : Int) == 13) = false := by rw [beq_eq_false_iff_ne]; omega
       clear n1 n2 n3 H3 HBB HL1
       have hxd : (⟨ln.toArray⟩ : ByteArray).extract c ln.length = ⟨(ln.drop c).toArray⟩ := ba_ext (by rw [ext_eq, mk_toList, mk_toList, List.take_of_length_le (Nat.le_refl _)])
       have HDL : Box ((ln.drop c).length = ln.length - c) := ⟨by rw [List.length_drop]⟩
       have HN := Lib.hid (fun W h1 h2 => next_any (ln.drop c) W h1 h2 (by rw [HDL.out]; omega) (by rw [HDL.out]; omega))
       have HNB : Box (∀ e, nextRead (ln.drop c) = .bad e → e ≠ 0) := ⟨fun e h => nextRead_bad h⟩
       have HNL : Box (∀ kd t n d x m, nextRead (ln.drop c) = .good kd t n d x m → 1 ≤ m ∧ c + m ≤ ln.length) := ⟨fun kd t n d x m h => by have := nextRead_len h (by rw [HDL.out]; omega); rw [HDL.out] at this; omega⟩
       replace HL2 : Box (∀ e, nextRead (ln.drop c) = .bad e → RL = .bad (c + 1) e) := ⟨fun e => HL2.out e hbl⟩
       replace HL3 : Box (∀ kd t n d x m, nextRead (ln.drop c) = .good kd t n d x m → l.length = 4000 → RL = .bad (c + 1) 4) := ⟨fun kd t n d x m => HL3.out kd t n d x m hbl⟩
       replace HL4 : Box (∀ kd t n d x m, nextRead (ln.drop c) = .good kd t n d x m → l.length ≠ 4000 → lineRead k ln g (c + m) (l ++ [⟨kd, t, n, d, x, k + 1, c + 1⟩]) = RL) := ⟨fun kd t n d x m => HL4.out kd t n d x m hbl⟩
       clear hbl HDL
       generalize nextRead (ln.drop c) = nr at *
       generalize ln.drop c = lt at *
       cases nr with
       | bad er =>
         have HRB : Box (R = .bad (k + 1) (c + 1) er) := ⟨HQB.out _ _ (HL2.out _ rfl)⟩
         have her : (er != 0) = true := by have := HNB.out er rfl; simpa using this
         have her2 : (er == 0) = false := by have := HNB.out er rfl; simpa using this
         clear HL2 HL3 HL4 HNB HNL
         go_wp2_with fail
         refine (HN.out _ ((HS.out.below HBK.out (Nat.le_refl _)).alloc _) ((HLI.out.below HBK.out).below ((Below.refl _ _).alloc (Nat.le_refl _) _))).mono ?_
         rintro e w5 ⟨he, hb5⟩
         obtain rfl := nextPost_bad he
         clear he
         have hsz1 : w.heap.size + 1 ≤ w1.heap.size := by have := HB1.out.size; simp at this; omega
         have hsz2 : w1.heap.size ≤ wr.heap.size := HBK.out.size
         have hbR := ((HB1.out.trans (HBK.out.mono hsz1)).alloc (by omega) (.cells #[.int .i64 ((k : Int) + 1), .int .i64 ((c : Int) + 1)] 31)).trans (hb5.mono (by simp; omega))
         rw [World.size_alloc] at hb5
         replace hb5 := hb5.alloc (by have := hb5.size; simp at this; omega) (.cells #[.int .i64 0, .string ⟨#[]⟩, .string ⟨#[]⟩, .string ⟨#[]⟩, .slice Option.none 0 0, .int .i64 0, .int .i64 0] 92)
         replace hbR := hbR.alloc (by have := hbR.size; simp at this; omega) (.cells #[.int .i64 0, .string ⟨#[]⟩, .string ⟨#[]⟩, .string ⟨#[]⟩, .slice Option.none 0 0, .int .i64 0, .int .i64 0] 92)
         go_wp2_with fail
         generalize hWQ : w5.alloc (.cells #[.int .i64 0, .string ⟨#[]⟩, .string ⟨#[]⟩, .string ⟨#[]⟩, .slice Option.none 0 0, .int .i64 0, .int .i64 0] 92) = WQ at *
         clear hWQ
         obtain ⟨p0, p1, p2, p3, p4⟩ := two_below hb5
         obtain ⟨r0, r1, r2, r3, r4⟩ := two_below hbR
         have hne : w.heap.size ≠ wr.heap.size := by omega
         have hne2 : wr.heap.size ≠ w.heap.size := by omega
         have hbE := below_result hbR
         clear hb5 hbR HN HS HLI HT HBK HBW HB1 HW HCT HQS HQF HQM HQB HRL hsz1 hsz2
         go_region
         go_wp2_with fail
         refine bodyPost_ret (v := .tuple #[.slice Option.none 0 0, .agg #[.int .i64 ((k : Int) + 1), .int .i64 ((c : Int) + 1)], .int .i64 er]) (by simp [results, Tryz.results26, go_sem, r0, r1]) rfl ⟨by rw [HRB.out]; rfl, ?_⟩
         exact below_to_drew ((hbE.setCell (Nat.le_refl _) _).setCell (Nat.le_refl _) _)
       | good kd t n d x m =>
         obtain ⟨hm1, hm2⟩ := HNL.out _ _ _ _ _ _ rfl
         by_cases h40 : l.length = 4000
         ·have HRB : Box (R = .bad (k + 1) (c + 1) 4) := ⟨HQB.out _ _ (HL3.out _ _ _ _ _ _ rfl h40)⟩
          have h4a : ((l.length : Int) == 4000) = true := by rw [h40]; rfl
          clear HL2 HL3 HL4 HNB HNL h40
          go_wp2_with fail
          refine (HN.out _ ((HS.out.below HBK.out (Nat.le_refl _)).alloc _) ((HLI.out.below HBK.out).below ((Below.refl _ _).alloc (Nat.le_refl _) _))).mono ?_
          rintro e w5 ⟨he, hb5⟩
          obtain ⟨A5, C5, rfl, htr⟩ := nextPost_good he
          clear he htr
          have hsz1 : w.heap.size + 1 ≤ w1.heap.size := by have := HB1.out.size; simp at this; omega
          have hsz2 : w1.heap.size ≤ wr.heap.size := HBK.out.size
          have hbR := ((HB1.out.trans (HBK.out.mono hsz1)).alloc (by omega) (.cells #[.int .i64 ((k : Int) + 1), .int .i64 ((c : Int) + 1)] 31)).trans (hb5.mono (by simp; omega))
          rw [World.size_alloc] at hb5
          replace hb5 := hb5.alloc (by have := hb5.size; simp at this; omega) (.cells #[.int .i64 kd, .string ⟨t.toArray⟩, .string ⟨n.toArray⟩, .string ⟨d.toArray⟩, .slice A5 x.length C5, .int .i64 0, .int .i64 0] 92)
          replace hbR := hbR.alloc (by have := hbR.size; simp at this; omega) (.cells #[.int .i64 kd, .string ⟨t.toArray⟩, .string ⟨n.toArray⟩, .string ⟨d.toArray⟩, .slice A5 x.length C5, .int .i64 0, .int .i64 0] 92)
          go_wp2_with fail
          generalize hWQ : w5.alloc (.cells #[.int .i64 kd, .string ⟨t.toArray⟩, .string ⟨n.toArray⟩, .string ⟨d.toArray⟩, .slice A5 x.length C5, .int .i64 0, .int .i64 0] 92) = WQ at *
          clear hWQ
          obtain ⟨p0, p1, p2, p3, p4⟩ := two_below hb5
          obtain ⟨r0, r1, r2, r3, r4⟩ := two_below hbR
          have hne : w.heap.size ≠ wr.heap.size := by omega
          have hne2 : wr.heap.size ≠ w.heap.size := by omega
          have hbE := below_result hbR
          clear hb5 hbR HN HS HLI HT HBK HBW HB1 HW HCT HQS HQF HQM HQB HRL hsz1 hsz2
          go_region
          go_wp2_with fail
          refine bodyPost_ret (v := .tuple #[.slice Option.none 0 0, .agg #[.int .i64 ((k : Int) + 1), .int .i64 ((c : Int) + 1)], .int .i64 4]) (by simp [results, Tryz.results26, go_sem, r0, r1]) rfl ⟨by rw [HRB.out]; rfl, ?_⟩
          exact below_to_drew ((hbE.setCell (Nat.le_refl _) _).setCell (Nat.le_refl _) _)
         ·have HRM : Box (lineRead k ln g (c + m) (l ++ [⟨kd, t, n, d, x, k + 1, c + 1⟩]) = RL) := ⟨HL4.out _ _ _ _ _ _ rfl h40⟩
          have h4a : ((l.length : Int) == 4000) = false := by rw [beq_eq_false_iff_ne]; omega
          have hl3 : l.length < 4000 := by omega
          clear HL2 HL3 HL4 HNB HNL h40
          go_wp2_with fail
          refine (HN.out _ ((HS.out.below HBK.out (Nat.le_refl _)).alloc _) ((HLI.out.below HBK.out).below ((Below.refl _ _).alloc (Nat.le_refl _) _))).mono ?_
          rintro e w5 ⟨he, hb5⟩
          obtain ⟨A5, C5, rfl, htr⟩ := nextPost_good he
          have HTR := Lib.hid htr
          clear he htr
          have hwr5 : Below wr.heap.size wr w5 := ((Below.refl _ _).alloc (Nat.le_refl _) _).trans (hb5.mono (by simp))
          rw [World.size_alloc] at hb5
          obtain ⟨p0, p1, p2, p3, p4⟩ := two_below hb5
          have HWR5 := Lib.hid hwr5
          clear hb5 hwr5
          replace HT := Lib.hid (HT.out.below HWR5.out)
          replace HBK := Lib.hid (HBK.out.trans (HWR5.out.mono HBK.out.size))
          clear HWR5
          obtain ⟨rvs, hr1, hown, hr3⟩ := HT.out
          have HR1 : Box (rvs.length = l.length) := ⟨hr1⟩
          have HOW := Lib.hid hown
          have HR3 := Lib.hid hr3
          clear hr1 hown hr3 HT
          have hnw := cells_new (w5.alloc (.cells #[.int .i64 kd, .string ⟨t.toArray⟩, .string ⟨n.toArray⟩, .string ⟨d.toArray⟩, .slice A5 x.length C5, .int .i64 ((k : Int) + 1), .int .i64 ((c : Int) + 1)] 92)) #[.int .i64 kd, .string ⟨t.toArray⟩, .string ⟨n.toArray⟩, .string ⟨d.toArray⟩, .slice A5 x.length C5, .int .i64 ((k : Int) + 1), .int .i64 ((c : Int) + 1)] 92
          rw [World.size_alloc] at hnw
          have HNW := Lib.hid hnw
          clear hnw
          go_wp2_with (at_builtin; refine wpList_append_own _ rfl _ _ _ rfl w1.heap.size 92 i0 (.agg #[.int .i64 0, .string ⟨#[]⟩, .string ⟨#[]⟩, .string ⟨#[]⟩, .slice Option.none 0 0, .int .i64 0, .int .i64 0]) 7 96 Tryz.underlying81 hi0 hz0 hz1 hz2 rfl (by decide) _ _ _ rfl ((HOW.out.alloc _).alloc _) ⟨w5.heap.size + 1, 0, Option.none⟩ 1 1 [.int .i64 kd, .string ⟨t.toArray⟩, .string ⟨n.toArray⟩, .string ⟨d.toArray⟩, .slice A5 x.length C5, .int .i64 ((k : Int) + 1), .int .i64 ((c : Int) + 1)] rfl rfl HNW.out (by intro u hu; simp at hu; rcases hu with rfl | rfl | rfl | rfl | rfl | rfl | rfl <;> rfl) (by unfold maxLen; omega) (by omega) (by have := HBK.out.size; simp; omega) ?_; intro v3 w3 hown3 hg3 _)
          go_wp2
          go_roundw
          case rel =>
           have hba : Below w5.heap.size w5 ((w5.alloc (.cells #[.int .i64 kd, .string ⟨t.toArray⟩, .string ⟨n.toArray⟩, .string ⟨d.toArray⟩, .slice A5 x.length C5, .int .i64 ((k : Int) + 1), .int .i64 ((c : Int) + 1)] 92)).alloc (.cells #[.int .i64 kd, .string ⟨t.toArray⟩, .string ⟨n.toArray⟩, .string ⟨d.toArray⟩, .slice A5 x.length C5, .int .i64 ((k : Int) + 1), .int .i64 ((c : Int) + 1)] 92)) := ((Below.refl _ _).alloc (Nat.le_refl _) _).alloc (by simp) _
           refine ⟨c + m, g, l ++ [⟨kd, t, n, d, x, k + 1, c + 1⟩], by omega, by go_num, by omega, ?_, ?_, HRM, by simp; omega, by simp; omega, by rw [decide_eq_true (by simp; omega)]⟩
           ·exact Toks.push (rv := .slice A5 x.length C5) HR1.out ((HOW.out.alloc _).alloc _) (fun k t rv a b => (HR3.out k t rv a b).below hba) (HTR.out.below hba) hown3 hg3
           ·exact (HBK.out.trans (hba.mono HBK.out.size)).grown hg3 (by have := HBK.out.size; simp; omega) (fun k hk => (HOW.out.lt k hk).1)
          case measure => simp [intOf]; omega
    ·have HRG : Box (RL = .good l) := ⟨by rw [← HRc.out, lineRead_end hlc]⟩
     clear HRc
     by_cases hsm : l.length = acc.length
     ·have HRS : Box (linesRead (k + 1) (ws.drop (k + 1)) l = R) := ⟨HQS.out l HRG.out hsm⟩
      rw [show decide (l.length ≠ acc.length) = false from decide_eq_false (fun h => h hsm)]
      go_wp2_with fail
      go_roundw
      case rel => exact ⟨k + 1, l, by omega, by go_num, HT.out, HBK.out, HRS, hl4⟩
      case measure => simp [intOf]; omega
     ·rw [show decide (l.length ≠ acc.length) = true from decide_eq_true hsm]
      by_cases h40 : l.length = 4000
      ·have HRB : Box (R = .bad (k + 1) (full.length + 1) 4) := ⟨HQF.out l HRG.out hsm h40⟩
       have h4a : ((l.length : Int) == 4000) = true := by rw [h40]; rfl
       clear h40 hsm
       have hsz1 : w.heap.size + 1 ≤ w1.heap.size := by have := HB1.out.size; simp at this; omega
       have hsz2 : w1.heap.size ≤ wr.heap.size := HBK.out.size
       have hbR := ((HB1.out.trans (HBK.out.mono hsz1)).alloc (by omega) (.cells #[.int .i64 ((k : Int) + 1), .int .i64 ((full.length : Int) + 1)] 31))
       have hb5 : Below (wr.heap.size + 1) (wr.alloc (.cells #[.int .i64 ((k : Int) + 1), .int .i64 ((full.length : Int) + 1)] 31)) (wr.alloc (.cells #[.int .i64 ((k : Int) + 1), .int .i64 ((full.length : Int) + 1)] 31)) := Below.refl _ _
       go_wp2_with fail
       generalize hWQ : wr.alloc (.cells #[.int .i64 ((k : Int) + 1), .int .i64 ((full.length : Int) + 1)] 31) = WQ at hbR ⊢
       rw [hWQ] at hb5
       rw [← hWQ] at hb5
       have hb6 : Below (wr.heap.size + 1) (wr.alloc (.cells #[.int .i64 ((k : Int) + 1), .int .i64 ((full.length : Int) + 1)] 31)) WQ := by rw [hWQ]; exact Below.refl _ _
       obtain ⟨p0, p1, p2, p3, p4⟩ := two_below hb6
       obtain ⟨r0, r1, r2, r3, r4⟩ := two_below hbR
       have hne : w.heap.size ≠ wr.heap.size := by omega
       have hne2 : wr.heap.size ≠ w.heap.size := by omega
       have hbE := below_result hbR
       clear hb5 hb6 hbR hWQ HS HLI HT HBK HBW HB1 HW HCT HQS HQF HQM HQB HRL hsz1 hsz2
       go_region
       go_wp2_with fail
       refine bodyPost_ret (v := .tuple #[.slice Option.none 0 0, .agg #[.int .i64 ((k : Int) + 1), .int .i64 ((full.length : Int) + 1)], .int .i64 4]) (by simp [results, Tryz.results26, go_sem, r0, r1]) rfl ⟨by rw [HRB.out]; rfl, ?_⟩
       exact below_to_drew ((hbE.setCell (Nat.le_refl _) _).setCell (Nat.le_refl _) _)
      ·have HRM : Box (linesRead (k + 1) (ws.drop (k + 1)) (l ++ [endTok k full]) = R) := ⟨HQM.out l HRG.out hsm h40⟩
       have h4a : ((l.length : Int) == 4000) = false := by rw [beq_eq_false_iff_ne]; omega
       have hl3 : l.length < 4000 := by omega
       clear h40 hsm
       obtain ⟨rvs, hr1, hown, hr3⟩ := HT.out
       have HR1 : Box (rvs.length = l.length) := ⟨hr1⟩
       have HOW := Lib.hid hown
       have HR3 := Lib.hid hr3
       clear hr1 hown hr3 HT
       have hnw := cells_new (wr.alloc (.cells #[.int .i64 ((k : Int) + 1), .int .i64 ((full.length : Int) + 1)] 31)) #[.int .i64 6, .string ⟨#[10]⟩, .string ⟨#[]⟩, .string ⟨#[]⟩, .slice Option.none 0 0, .int .i64 ((k : Int) + 1), .int .i64 ((full.length : Int) + 1)] 92
       rw [World.size_alloc] at hnw
       have HNW := Lib.hid hnw
       clear hnw
       go_wp2_with (at_builtin; refine wpList_append_own _ rfl _ _ _ rfl w1.heap.size 92 i0 (.agg #[.int .i64 0, .string ⟨#[]⟩, .string ⟨#[]⟩, .string ⟨#[]⟩, .slice Option.none 0 0, .int .i64 0, .int .i64 0]) 7 96 Tryz.underlying81 hi0 hz0 hz1 hz2 rfl (by decide) _ _ _ rfl ((HOW.out.alloc _).alloc _) ⟨wr.heap.size + 1, 0, Option.none⟩ 1 1 [.int .i64 6, .string ⟨#[10]⟩, .string ⟨#[]⟩, .string ⟨#[]⟩, .slice Option.none 0 0, .int .i64 ((k : Int) + 1), .int .i64 ((full.length : Int) + 1)] rfl rfl HNW.out (by intro u hu; simp at hu; rcases hu with rfl | rfl | rfl | rfl | rfl | rfl | rfl <;> rfl) (by unfold maxLen; omega) (by omega) (by have := HBK.out.size; simp; omega) ?_; intro v3 w3 hown3 hg3 _)
       go_wp2
       go_roundw
       case rel =>
        have hba : Below wr.heap.size wr ((wr.alloc (.cells #[.int .i64 ((k : Int) + 1), .int .i64 ((full.length : Int) + 1)] 31)).alloc (.cells #[.int .i64 6, .string ⟨#[10]⟩, .string ⟨#[]⟩, .string ⟨#[]⟩, .slice Option.none 0 0, .int .i64 ((k : Int) + 1), .int .i64 ((full.length : Int) + 1)] 92)) := ((Below.refl _ _).alloc (Nat.le_refl _) _).alloc (by simp) _
        refine ⟨k + 1, l ++ [endTok k full], by omega, by go_num, ?_, ?_, HRM, by simp; omega⟩
        ·exact Toks.push (rv := .slice Option.none 0 0) HR1.out ((HOW.out.alloc _).alloc _) (fun k t rv a b => (HR3.out k t rv a b).below hba) (TRow.nil _ _ _ (by unfold maxLen; omega)) hown3 hg3
        ·exact (HBK.out.trans (hba.mono HBK.out.size)).grown hg3 (by have := HBK.out.size; simp; omega) (fun k hk => (HOW.out.lt k hk).1)
       case measure => simp [intOf]; omega
  ·obtain rfl : k = ws.length := by omega
   have HRG : Box (R = .good acc) := ⟨by rw [← HRk.out, List.drop_length]; rfl⟩
   obtain ⟨LA, LC, _, hlv, _⟩ := HT.out.isToks
   subst hlv
   have HTK := Lib.hid HT.out
   have hsz1 : w.heap.size + 1 ≤ w1.heap.size := by have := HB1.out.size; simp at this; omega
   have hbR := HB1.out.trans (HBK.out.mono hsz1)
   obtain ⟨r0, r1, r2, r3, r4⟩ := two_below hbR
   have hbE := below_result hbR
   have HBL := Lib.hid (cells_of_below hbR)
   clear hbR HRk HT
   go_wp2_with fail
   refine bodyPost_ret (v := .tuple #[.slice LA acc.length LC, .agg #[.int .i64 0, .int .i64 0], .int .i64 0]) (by simp [results, Tryz.results26, go_sem, r0, r1]) rfl ⟨?_, ?_⟩
   ·rw [HRG.out]
    exact ⟨LA, LC, _, rfl, ((HTK.out.set (by omega) HBL.out (by decide) _).set (by omega) (HBL.out.set 0 _) (by decide) _)⟩
   ·exact (hbE.setCell (Nat.le_refl _) _).setCell (Nat.le_refl _) _
theorem scan_anyT (s : List UInt8) (w : World) (hS : Std w) (hL : LenIs w) (hl : s.length ≤ 100000) :
  Calls Tryz.prog 26 #[.string ⟨s.toArray⟩] w fun e w' => ScanPostT w' (scanRead s) e ∧ Below w.heap.size w w' := by
 unfold scanRead
 by_cases h : 65536 < s.length
 ·rw [if_pos h]; exact scan_longT s w h hl
 ·rw [if_neg h]; exact scan_mainT s w hS hL (by omega)
inductive PRes where
 | err (line col e : Int)
 | ok (s : Sc)
noncomputable def parseP (t : List UInt8) : PRes := match scanRead t with
 | .bad l c e => .err l c e
 | .good l => match readP smP primeErr ntP l with
   | .error f => .err f.line f.col f.err
   | .ok s => if scErr s = 0 then .ok s else .err 0 0 (scErr s)
def PaPost (w' : World) : PRes → Ending → Prop
 | .err l c er, e => e = .returned (.tuple #[.agg #[.slice Option.none 0 0, .slice Option.none 0 0], .agg #[.int .i64 l, .int .i64 c], .int .i64 er])
 | .ok s, e => ∃ pv vv, e = .returned (.tuple #[.agg #[pv, vv], .agg #[.int .i64 0, .int .i64 0], .int .i64 0]) ∧ ScV w' w'.heap.size pv vv s
structure VSm (vs : List Vc) (k : Nat) : Prop where
 len : vs.length ≤ k
 name : ∀ v ∈ vs, v.name.length ≤ 32
 evs : ∀ v ∈ vs, v.evs.length ≤ k
 nums : ∀ v ∈ vs, ∀ x ∈ v.evs, x.num.length ≤ 60 ∧ x.den.length ≤ 60 ∧ x.notes.length ≤ 1001
theorem addEv_mem : ∀ (vs : List Vc) (e : Ev), ∀ v ∈ addEv vs e, v ∈ vs ∨ ∃ u ∈ vs, v = ⟨u.name, u.evs ++ [e]⟩
 | [], _, v, hv => by simp [addEv] at hv
 | [a], e, v, hv => by
   simp [addEv] at hv
   exact .inr ⟨a, by simp, hv⟩
 | a :: b :: r, e, v, hv => by
   rw [addEv, List.mem_cons] at hv
   rcases hv with rfl | hv
   ·exact .inl (by simp)
   ·rcases addEv_mem (b :: r) e v hv with h | ⟨u, hu, h⟩
    ·exact .inl (List.mem_cons_of_mem _ h)
    ·exact .inr ⟨u, List.mem_cons_of_mem _ hu, h⟩
theorem ntRun_len {nt : List Int → Tok → List Int × Int} {l : List Tok} {p : List Int} : ∀ (f k : Nat) (acc : List (List Int)) (j : Nat) (ns : List (List Int)), ntRun nt l p f k acc = .ok (j, ns) → ns.length ≤ acc.length + f
 | 0, k, acc, j, ns, h => by
   rw [ntRun] at h
   cases h
   exact Nat.le_refl _
 | f + 1, k, acc, j, ns, h => by
   rw [ntRun] at h
   split at h
   ·split at h
    ·have := ntRun_len f (k + 1) _ j ns h
     rw [List.length_append, List.length_singleton] at this
     omega
    ·cases h
   ·cases h
    omega
theorem tokAt_num {l : List Tok} {k : Nat} (hn : ∀ t ∈ l, t.kind = 2 → NumTok t) (h : kindAt l k 2 = true) : (tokAt l k).num.length ≤ 60 ∧ (tokAt l k).den.length ≤ 60 := by
 obtain ⟨hk, hq⟩ := kindAt_yes h
 have e : tokAt l k = l[k]'hk := by unfold tokAt; rw [List.getElem?_eq_getElem hk]; rfl
 obtain ⟨n, d, h1, h2, _, _, h3, h4⟩ := hn _ (List.getElem_mem hk) hq
 rw [e, h1, h2]
 exact ⟨h3, h4⟩
theorem tokAt_word {l : List Tok} {k : Nat} (hw : ∀ t ∈ l, t.kind = 1 → t.text ≠ [58] ∧ t.text.length ≤ 32) (h : kindAt l k 1 = true) : (tokAt l k).text.length ≤ 32 := by
 obtain ⟨hk, hq⟩ := kindAt_yes h
 have e : tokAt l k = l[k]'hk := by unfold tokAt; rw [List.getElem?_eq_getElem hk]; rfl
 rw [e]
 exact (hw _ (List.getElem_mem hk) hq).2
theorem lineP_small {nt : List Int → Tok → List Int × Int} {l : List Tok} {p : List Int} {vs vs' : List Vc} {k j : Nat} (hln : l.length ≤ 1000) (hn : ∀ t ∈ l, t.kind = 2 → NumTok t) (hw : ∀ t ∈ l, t.kind = 1 → t.text ≠ [58] ∧ t.text.length ≤ 32) (h : lineP nt l p vs k = .ok (j, vs')) (hs : VSm vs k) : k < j ∧ VSm vs' j := by
 obtain ⟨h1, h2, h3⟩ := lineP_ok h hs.len hs.evs
 refine ⟨h1, ?_⟩
 unfold lineP at h
 split at h
 ·unfold vcP at h
  split at h
  ·cases h
  ·rename_i hx
   injection h with h
   injection h with e1 e2
   subst e1 e2
   split at hx
   ·rename_i hk1
    split at hx
    ·injection hx with hx
     injection hx with e3 e4
     subst e3 e4
     refine ⟨h2, fun v hv => ?_, h3, fun v hv => ?_⟩
     ·rcases List.mem_append.1 hv with hv | hv
      ·exact hs.name v hv
      ·simp at hv; subst hv; exact tokAt_word hw hk1
     ·rcases List.mem_append.1 hv with hv | hv
      ·exact hs.nums v hv
      ·simp at hv; subst hv; simp
    ·cases hx
   ·cases hx
 ·split at h
  ·cases h
  ·split at h
   ·rename_i hk2
    unfold evP at h
    split at h
    ·cases h
    ·rename_i hx
     injection h with h
     injection h with e1 e2
     subst e1 e2
     split at hx
     ·split at hx
      ·cases hx
      ·rename_i hr
       split at hx
       ·injection hx with hx
        injection hx with e3 e4
        have hnl := ntRun_len _ _ _ _ _ hr
        simp only [List.length_nil, Nat.zero_add] at hnl
        have hnd := tokAt_num hn hk2
        subst e3 e4
        refine ⟨h2, fun v hv => ?_, h3, fun v hv x hx => ?_⟩
        ·rcases addEv_mem _ _ v hv with hv | ⟨u, hu, rfl⟩
         ·exact hs.name v hv
         ·exact hs.name u hu
        ·rcases addEv_mem _ _ v hv with hv | ⟨u, hu, rfl⟩
         ·exact hs.nums v hv x hx
         ·rcases List.mem_append.1 hx with hx | hx
          ·exact hs.nums u hu x hx
          ·simp at hx
           subst hx
           exact ⟨hnd.1, hnd.2, by dsimp only; omega⟩
       ·cases hx
     ·cases hx
   ·cases h
theorem linesP_small {nt : List Int → Tok → List Int × Int} {l : List Tok} {p : List Int} (hln : l.length ≤ 1000) (hn : ∀ t ∈ l, t.kind = 2 → NumTok t) (hw : ∀ t ∈ l, t.kind = 1 → t.text ≠ [58] ∧ t.text.length ≤ 32) : ∀ (f k : Nat) (vs vs' : List Vc), linesP nt l p f k vs = .ok vs' → VSm vs k → k ≤ l.length → ∃ j, j ≤ l.length ∧ VSm vs' j
 | 0, k, vs, vs', h, hs, hkl => by
   rw [linesP] at h
   injection h with h
   subst h
   exact ⟨k, hkl, hs⟩
 | f + 1, k, vs, vs', h, hs, hkl => by
   by_cases hk : k < l.length
   ·rw [linesP_step hk] at h
    cases hl : lineP nt l p vs k with
    | error e => rw [hl] at h; cases h
    | ok x =>
      obtain ⟨j, vs1⟩ := x
      rw [hl] at h
      obtain ⟨h1, h2⟩ := lineP_small hln hn hw hl hs
      have hj : j ≤ l.length := by
       clear h h2 h1 hs
       unfold lineP at hl
       split at hl
       ·unfold vcP at hl
        split at hl
        ·cases hl
        ·rename_i hx
         injection hl with hl
         injection hl with e1 e2
         subst e1
         split at hx
         ·split at hx
          ·rename_i h6
           injection hx with hx
           injection hx with e3 e4
           have := kindAt_lt l h6
           omega
          ·cases hx
         ·cases hx
       ·split at hl
        ·cases hl
        ·split at hl
         ·unfold evP at hl
          split at hl
          ·cases hl
          ·rename_i hx
           injection hl with hl
           injection hl with e1 e2
           subst e1
           split at hx
           ·split at hx
            ·cases hx
            ·split at hx
             ·rename_i h6
              injection hx with hx
              injection hx with e3 e4
              have := kindAt_lt l h6
              omega
             ·cases hx
           ·cases hx
         ·cases hl
      exact linesP_small hln hn hw f j vs1 vs' h h2 hj
   ·rw [linesP_end (by omega)] at h
    injection h with h
    subst h
    exact ⟨k, hkl, hs⟩
theorem readP_small {l : List Tok} {s : Sc} (hln : l.length ≤ 1000) (hn : ∀ t ∈ l, t.kind = 2 → NumTok t) (hw : ∀ t ∈ l, t.kind = 1 → t.text ≠ [58] ∧ t.text.length ≤ 32) (h : readP smP primeErr ntP l = .ok s) : ScSm s := by
 unfold readP at h
 split at h
 ·cases h
 ·split at h
  ·cases h
  ·rename_i k ps hp
   split at h
   ·cases h
   ·rename_i vs hv
    injection h with h
    subst h
    have hk : k ≤ l.length := by
     unfold prP at hp
     split at hp
     ·split at hp
      ·cases hp
      ·split at hp
       ·rename_i h6
        split at hp
        ·injection hp with hp
         injection hp with e1 e2
         have := kindAt_lt l h6
         omega
        ·cases hp
       ·cases hp
     ·cases hp
    obtain ⟨j, hj, hs⟩ := linesP_small hln hn hw _ _ _ _ hv ⟨Nat.zero_le _, by simp, by simp, by simp⟩ hk
    exact ⟨Nat.le_trans hs.len (by omega), fun v hv => Nat.le_trans (hs.name v hv) (by omega), fun v hv => Nat.le_trans (hs.evs v hv) (by omega), fun v hv x hx => by have := hs.nums v hv x hx; omega⟩
section
variable {l : List Tok}
theorem fltAt_err (k : Nat) (e : Int) : (fltAt l k e).err = e := by
 unfold fltAt
 split <;> rfl
theorem prRun_err : ∀ (f k : Nat) (acc : List Int) (x : Flt), prRun smP l f k acc = .error x → x.err ≠ 0
 | 0, _, _, x, h => by rw [prRun] at h; cases h
 | f + 1, k, acc, x, h => by
   rw [prRun] at h
   split at h
   ·split at h
    ·exact prRun_err f _ _ x h
    ·injection h with h
     rw [← h, fltAt_err]
     decide
   ·cases h
theorem ntRun_err {nt : List Int → Tok → List Int × Int} {p : List Int} : ∀ (f k : Nat) (acc : List (List Int)) (x : Flt), ntRun nt l p f k acc = .error x → x.err ≠ 0
 | 0, _, _, x, h => by rw [ntRun] at h; cases h
 | f + 1, k, acc, x, h => by
   rw [ntRun] at h
   split at h
   ·split at h
    ·exact ntRun_err f _ _ x h
    ·rename_i hn
     injection h with h
     rw [← h, fltAt_err]
     exact hn
   ·cases h
theorem lineP_err {nt : List Int → Tok → List Int × Int} {p : List Int} {vs : List Vc} {k : Nat} {x : Flt} (h : lineP nt l p vs k = .error x) : x.err ≠ 0 := by
 have h15 : ∀ (k : Nat) (y : Flt), fltAt l k 15 = y → y.err ≠ 0 := fun k y e => by rw [← e, fltAt_err]; decide
 unfold lineP at h
 split at h
 ·unfold vcP at h
  split at h
  ·rename_i hx
   injection h with h
   subst h
   split at hx
   ·split at hx
    ·cases hx
    ·injection hx with hx; exact h15 _ _ hx
   ·injection hx with hx; exact h15 _ _ hx
  ·cases h
 ·split at h
  ·injection h with h; exact h15 _ _ h
  ·split at h
   ·unfold evP at h
    split at h
    ·rename_i hx
     injection h with h
     subst h
     split at hx
     ·split at hx
      ·rename_i hr
       injection hx with hx
       subst hx
       exact ntRun_err _ _ _ _ hr
      ·split at hx
       ·cases hx
       ·injection hx with hx; exact h15 _ _ hx
     ·injection hx with hx; exact h15 _ _ hx
    ·cases h
   ·injection h with h; exact h15 _ _ h
theorem linesP_err {nt : List Int → Tok → List Int × Int} {p : List Int} : ∀ (f k : Nat) (vs : List Vc) (x : Flt), linesP nt l p f k vs = .error x → x.err ≠ 0
 | 0, _, _, x, h => by rw [linesP] at h; cases h
 | f + 1, k, vs, x, h => by
   by_cases hk : k < l.length
   ·rw [linesP_step hk] at h
    cases hl : lineP nt l p vs k with
    | error e =>
      rw [hl] at h
      injection h with h
      rw [← h]
      exact lineP_err hl
    | ok y =>
      rw [hl] at h
      exact linesP_err f _ _ x h
   ·rw [linesP_end (by omega)] at h
    cases h
theorem readP_err {x : Flt} (h : readP smP primeErr ntP l = .error x) : x.err ≠ 0 := by
 have h15 : ∀ (k : Nat) (y : Flt), fltAt l k 15 = y → y.err ≠ 0 := fun k y e => by rw [← e, fltAt_err]; decide
 unfold readP at h
 split at h
 ·injection h with h
  rw [← h]
  decide
 ·split at h
  ·rename_i hp
   injection h with h
   subst h
   unfold prP at hp
   split at hp
   ·split at hp
    ·rename_i hr
     injection hp with hp
     subst hp
     exact prRun_err _ _ _ _ hr
    ·split at hp
     ·split at hp
      ·cases hp
      ·rename_i hn
       injection hp with hp
       rw [← hp, fltAt_err]
       exact hn
     ·injection hp with hp; exact h15 _ _ hp
   ·injection hp with hp; exact h15 _ _ hp
  ·split at h
   ·rename_i hl
    injection h with h
    subst h
    exact linesP_err _ _ _ _ hl
   ·cases h
end
def ScnOk (t : List UInt8) : Prop := t.length ≤ 100000 ∧ ∀ l, scanRead t = .good l → l.length ≤ 1000 ∧ (∀ t ∈ l, t.row.length ≤ 1000) ∧ (∀ t ∈ l, t.kind = 2 → NumTok t) ∧ ∀ t ∈ l, t.kind = 1 → t.text ≠ [58] ∧ t.text.length ≤ 32
theorem ScnOk.of_short {s : List UInt8} (hs : s.length ≤ 900) (hr : ∀ k, runLen numB (s.drop k) ≤ 38) : ScnOk s := ⟨by omega, fun _ h => scan_fits hs hr h⟩
theorem scRead_any (v : Value) (l : List Tok) (w : World) (hS : Std w) (hv : IsToks w w.heap.size v l) (hr : ∀ t ∈ l, t.row.length ≤ 1000) (hln : l.length ≤ 1000) (hnum : ∀ t ∈ l, t.kind = 2 → NumTok t) :
  Calls Tryz.prog 27 #[v] w fun e w' => RdPost w' (readP smP primeErr ntP l) e ∧ Below w.heap.size w w' := by
 cases l with
 | nil =>
   obtain ⟨A, c, _, rfl, _⟩ := hv
   exact scRead_none A c w
 | cons t r => exact scRead_some v _ w hS hv (by simp) hr hln hnum
theorem Toks.kpt {E : List TypeId} {w w' : World} {base : Nat} {v : Value} {l : List Tok} (h : Toks w base v l) (hk : KpT E w.heap.size w w') (h1 : 92 ∉ E) (h2 : 3 ∉ E) : Toks w' base v l := by
 obtain ⟨rvs, h3, h4, h5⟩ := h
 exact ⟨rvs, h3, own_kpt h4 hk h1, fun k t rv a b => (h5 k t rv a b).keep fun b cur p hcur => hk.block b _ (Array.getElem?_eq_some_iff.1 hcur).1 ⟨cur, p, hcur⟩ h2⟩
theorem two_set {W : World} {P Q : Nat} {S T : TypeId} {a0 b0 c0 d0 : Value} (hP : Cells W P S [a0, b0]) (hQ : Cells W Q T [c0, d0]) (hPQ : P ≠ Q) (a b c d : Value) :
  Cells ((((W.setCell ⟨P, 0, Option.none⟩ a).setCell ⟨P, 1, Option.none⟩ b).setCell ⟨Q, 0, Option.none⟩ c).setCell ⟨Q, 1, Option.none⟩ d) P S [a, b] ∧ Cells ((((W.setCell ⟨P, 0, Option.none⟩ a).setCell ⟨P, 1, Option.none⟩ b).setCell ⟨Q, 0, Option.none⟩ c).setCell ⟨Q, 1, Option.none⟩ d) Q T [c, d] ∧ KpT [S, T] W.heap.size W ((((W.setCell ⟨P, 0, Option.none⟩ a).setCell ⟨P, 1, Option.none⟩ b).setCell ⟨Q, 0, Option.none⟩ c).setCell ⟨Q, 1, Option.none⟩ d) ∧
   ∀ (B : Nat) (w : World), Below B w W → B ≤ P → B ≤ Q → Below B w ((((W.setCell ⟨P, 0, Option.none⟩ a).setCell ⟨P, 1, Option.none⟩ b).setCell ⟨Q, 0, Option.none⟩ c).setCell ⟨Q, 1, Option.none⟩ d) := by
 have h1 := hP.set 0 a
 have h2 := h1.set 1 b
 have h3 := (hQ.far (p := ⟨P, 0, Option.none⟩) (Ne.symm hPQ) a).far (p := ⟨P, 1, Option.none⟩) (Ne.symm hPQ) b
 have h4 := h3.set 0 c
 exact ⟨(h2.far (p := ⟨Q, 0, Option.none⟩) hPQ c).far (p := ⟨Q, 1, Option.none⟩) hPQ d, h4.set 1 d, ((((KpT.refl _ _ _).setCell (TyB.of_cells hP) (by simp) _).setCell (TyB.of_cells h1) (by simp) _).setCell (TyB.of_cells h3) (by simp) _).setCell (TyB.of_cells h4) (by simp) _, fun B w hb h5 h6 => (((hb.setCell (p := ⟨P, 0, Option.none⟩) h5 a).setCell (p := ⟨P, 1, Option.none⟩) h5 b).setCell (p := ⟨Q, 0, Option.none⟩) h6 c).setCell (p := ⟨Q, 1, Option.none⟩) h6 d⟩
def pfW (W : World) (P F : Nat) (a b x y z : Value) : World := ((((W.setCell ⟨P, 0, Option.none⟩ a).setCell ⟨P, 1, Option.none⟩ b).setCell ⟨F, 0, Option.none⟩ x).setCell ⟨F, 1, Option.none⟩ y).setCell ⟨F, 2, Option.none⟩ z
set_option maxHeartbeats 1000000 in
theorem pf_set {W : World} {P Q F : Nat} {S T U : TypeId} {a0 b0 x0 y0 z0 : Value} {qs : List Value} (hP : Cells W P S [a0, b0]) (hQ : Cells W Q T qs) (hF : Cells W F U [x0, y0, z0]) (hPF : P ≠ F) (hPQ : P ≠ Q) (hQF : Q ≠ F) (a b x y z : Value) :
  Cells (pfW W P F a b x y z) P S [a, b] ∧ Cells (pfW W P F a b x y z) Q T qs ∧ Cells (pfW W P F a b x y z) F U [x, y, z] ∧ KpT [S, U] W.heap.size W (pfW W P F a b x y z) ∧ ∀ (B : Nat) (w : World), Below B w W → B ≤ P → B ≤ F → Below B w (pfW W P F a b x y z) := by
 have h1 := hP.set 0 a
 have h2 := h1.set 1 b
 have h3 := (hF.far (p := ⟨P, 0, Option.none⟩) (Ne.symm hPF) a).far (p := ⟨P, 1, Option.none⟩) (Ne.symm hPF) b
 have h4 := h3.set 0 x
 have h5 := h4.set 1 y
 have p3 := h2.far (p := ⟨F, 0, Option.none⟩) hPF x
 have p4 := p3.far (p := ⟨F, 1, Option.none⟩) hPF y
 have p5 := p4.far (p := ⟨F, 2, Option.none⟩) hPF z
 have q1 := hQ.far (p := ⟨P, 0, Option.none⟩) (Ne.symm hPQ) a
 have q2 := q1.far (p := ⟨P, 1, Option.none⟩) (Ne.symm hPQ) b
 have q3 := q2.far (p := ⟨F, 0, Option.none⟩) hQF x
 have q4 := q3.far (p := ⟨F, 1, Option.none⟩) hQF y
 have q5 := q4.far (p := ⟨F, 2, Option.none⟩) hQF z
 have f5 := h5.set 2 z
 have k1 : KpT [S, U] W.heap.size W (W.setCell ⟨P, 0, Option.none⟩ a) := (KpT.refl _ _ _).setCell (TyB.of_cells hP) (by simp) _
 have k2 := k1.setCell (p := ⟨P, 1, Option.none⟩) (TyB.of_cells h1) (by simp) b
 have k3 := k2.setCell (p := ⟨F, 0, Option.none⟩) (TyB.of_cells h3) (by simp) x
 have k4 := k3.setCell (p := ⟨F, 1, Option.none⟩) (TyB.of_cells h4) (by simp) y
 have k5 := k4.setCell (p := ⟨F, 2, Option.none⟩) (TyB.of_cells h5) (by simp) z
 refine ⟨p5, q5, f5, k5, fun B w hb h6 h7 => ?_⟩
 have b1 := hb.setCell (p := ⟨P, 0, Option.none⟩) h6 a
 have b2 := b1.setCell (p := ⟨P, 1, Option.none⟩) h6 b
 have b3 := b2.setCell (p := ⟨F, 0, Option.none⟩) h7 x
 have b4 := b3.setCell (p := ⟨F, 1, Option.none⟩) h7 y
 exact b4.setCell (p := ⟨F, 2, Option.none⟩) h7 z
set_option maxRecDepth 100000 in
set_option maxHeartbeats 8000000 in
theorem scParse_any (t : List UInt8) (w : World) (hS : Std w) (hL : LenIs w) (ht : ScnOk t) :
  Calls Tryz.prog 7 #[.string ⟨t.toArray⟩] w fun e w' => PaPost w' (parseP t) e ∧ Below w.heap.size w w' := by
 have HS := Lib.hid hS
 obtain ⟨htl, hto⟩ := ht
 have HTO : Box (∀ l, scanRead t = .good l → l.length ≤ 1000 ∧ (∀ t ∈ l, t.row.length ≤ 1000) ∧ (∀ t ∈ l, t.kind = 2 → NumTok t) ∧ ∀ t ∈ l, t.kind = 1 → t.text ≠ [58] ∧ t.text.length ≤ 32) := ⟨hto⟩
 obtain ⟨W0, hW0⟩ : ∃ W0, W0 = (w.alloc (.cells #[.slice Option.none 0 0, .slice Option.none 0 0] 29)).alloc (.cells #[.int .i64 0, .int .i64 0] 31) := ⟨_, rfl⟩
 have hb0 : Below w.heap.size w W0 := by rw [hW0]; exact ((Below.refl _ _).alloc (Nat.le_refl _) _).alloc (by simp) _
 have HP0 : Hid (Cells W0 w.heap.size 29 [.slice Option.none 0 0, .slice Option.none 0 0]) := Lib.hid (by rw [hW0]; exact (Cells.new w 29 #[.slice Option.none 0 0, .slice Option.none 0 0]).alloc _)
 have HQ0 : Hid (Cells W0 (w.heap.size + 1) 31 [.int .i64 0, .int .i64 0]) := Lib.hid (by
  have h := Cells.new (w.alloc (.cells #[.slice Option.none 0 0, .slice Option.none 0 0] 29)) 31 #[.int .i64 0, .int .i64 0]
  rw [World.size_alloc] at h
  rw [hW0]
  exact h)
 have HB0 := Lib.hid hb0
 have HSC := Lib.hid (fun W (hb : Below w.heap.size w W) => scan_anyT t W (hS.below hb (Nat.le_refl _)) (hL.below hb) htl)
 have HPP : Box (parseP t = match scanRead t with | .bad l c e => .err l c e | .good l => match readP smP primeErr ntP l with | .error f => .err f.line f.col f.err | .ok s => if scErr s = 0 then .ok s else .err 0 0 (scErr s)) := ⟨rfl⟩
 generalize parseP t = out at *
 have HNZ : Box (∀ a b e, scanRead t = .bad a b e → e ≠ 0) := ⟨fun a b e h => scanRead_bad h⟩
 generalize scanRead t = sr at *
 clear hS hL hto hb0
 go_enter Tryz.func7, Tryz.ntmps7
 go_upto_region 1 with (fail)
 rw [← hW0]
 clear hW0
 go_wp2_with fail
 refine (HSC.out _ HB0.out).mono ?_
 rintro e w1 ⟨hp, hb1⟩
 have HB1 := Lib.hid (HB0.out.trans (hb1.mono HB0.out.size))
 have HP1 := Lib.hid (HP0.out.below hb1 HP0.out.lt)
 have HQ1 := Lib.hid (HQ0.out.below hb1 HQ0.out.lt)
 have hPQ : w.heap.size ≠ w.heap.size + 1 := by omega
 have hQP : w.heap.size + 1 ≠ w.heap.size := by omega
 clear hb1 HP0 HQ0 HB0 HSC
 obtain ⟨p0, p1⟩ := cel2 HP1.out
 obtain ⟨q0, q1⟩ := cel2 HQ1.out
 have f0 := HP1.out.free 0
 have f1 := HP1.out.free 1
 have f2 := HQ1.out.free 0
 have f3 := HQ1.out.free 1
 cases sr with
 | bad sl sc se =>
   have hse := HNZ.out _ _ _ rfl
   have hseb : (se != 0) = true := by rw [bne_iff_ne]; exact hse
   have HE : Box (out = .err sl sc se) := ⟨HPP.out⟩
   obtain rfl := show e = .returned (.tuple #[.slice Option.none 0 0, .agg #[.int .i64 sl, .int .i64 sc], .int .i64 se]) from hp
   clear HPP HNZ HTO hse hp
   go_upto_region 3 with (fail)
   obtain ⟨W2, hW2⟩ : ∃ W2, W2 = (w1.setCell ⟨w.heap.size + 1, 0, Option.none⟩ (.int .i64 sl)).setCell ⟨w.heap.size + 1, 1, Option.none⟩ (.int .i64 sc) := ⟨_, rfl⟩
   have HP2 : Hid (Cells W2 w.heap.size 29 [.slice Option.none 0 0, .slice Option.none 0 0]) := Lib.hid (by rw [hW2]; exact (HP1.out.far (p := ⟨w.heap.size + 1, 0, Option.none⟩) hPQ _).far (p := ⟨w.heap.size + 1, 1, Option.none⟩) hPQ _)
   have HQ2 : Hid (Cells W2 (w.heap.size + 1) 31 [.int .i64 sl, .int .i64 sc]) := Lib.hid (by rw [hW2]; exact (HQ1.out.set 0 (.int .i64 sl)).set 1 (.int .i64 sc))
   have HB2 : Hid (Below w.heap.size w W2) := Lib.hid (by rw [hW2]; exact (HB1.out.setCell (p := ⟨w.heap.size + 1, 0, Option.none⟩) (Nat.le_succ _) _).setCell (p := ⟨w.heap.size + 1, 1, Option.none⟩) (Nat.le_succ _) _)
   rw [← hW2]
   clear hW2 p0 p1 q0 q1 f0 f1 f2 f3 HP1 HQ1 HB1
   obtain ⟨p0, p1⟩ := cel2 HP2.out
   obtain ⟨q0, q1⟩ := cel2 HQ2.out
   have f0 := HP2.out.free 0
   have f1 := HP2.out.free 1
   have f2 := HQ2.out.free 0
   have f3 := HQ2.out.free 1
   go_wp2_with fail
   go_region
   go_wp2_with fail
   obtain ⟨c1, c2, _, hbe⟩ := two_set HP2.out HQ2.out hPQ (.slice Option.none 0 0) (.slice Option.none 0 0) (.int .i64 sl) (.int .i64 sc)
   have hd1 : ∀ W : World, Below W.heap.size W W.drew := fun W => below_to_drew (Below.refl _ _)
   obtain ⟨z0, z1⟩ := cel2 (c1.below (hd1 _) c1.lt)
   obtain ⟨z2, z3⟩ := cel2 (c2.below (hd1 _) c2.lt)
   refine bodyPost_ret (v := .tuple #[.agg #[.slice Option.none 0 0, .slice Option.none 0 0], .agg #[.int .i64 sl, .int .i64 sc], .int .i64 se]) (by simp (maxDischargeDepth := 10) [results, Tryz.results7, go_sem, z0, z1, z2, z3]) rfl ⟨by rw [HE.out]; rfl, ?_⟩
   exact below_to_drew (hbe w.heap.size w HB2.out (Nat.le_refl _) (Nat.le_succ _))
 | good l =>
   obtain ⟨AT, cT, baseT, rfl, ht⟩ := hp
   obtain ⟨hl1, hl2, hl3, hl4⟩ := HTO.out l rfl
   obtain ⟨W2, hW2⟩ : ∃ W2, W2 = (w1.setCell ⟨w.heap.size + 1, 0, Option.none⟩ (.int .i64 0)).setCell ⟨w.heap.size + 1, 1, Option.none⟩ (.int .i64 0) := ⟨_, rfl⟩
   have HP2 : Hid (Cells W2 w.heap.size 29 [.slice Option.none 0 0, .slice Option.none 0 0]) := Lib.hid (by rw [hW2]; exact (HP1.out.far (p := ⟨w.heap.size + 1, 0, Option.none⟩) hPQ _).far (p := ⟨w.heap.size + 1, 1, Option.none⟩) hPQ _)
   have HQ2 : Hid (Cells W2 (w.heap.size + 1) 31 [.int .i64 0, .int .i64 0]) := Lib.hid (by rw [hW2]; exact (HQ1.out.set 0 (.int .i64 0)).set 1 (.int .i64 0))
   have HB2 : Hid (Below w.heap.size w W2) := Lib.hid (by rw [hW2]; exact (HB1.out.setCell (p := ⟨w.heap.size + 1, 0, Option.none⟩) (Nat.le_succ _) _).setCell (p := ⟨w.heap.size + 1, 1, Option.none⟩) (Nat.le_succ _) _)
   have hk2 : KpT [31] w1.heap.size w1 W2 := by
    rw [hW2]
    exact ((KpT.refl _ _ _).setCell (TyB.of_cells HQ1.out) (by simp) _).setCell (TyB.of_cells (HQ1.out.set 0 (.int .i64 0))) (by simp) _
   have ht2 : IsToks W2 W2.heap.size (.slice AT l.length cT) l := (Toks.kpt ht hk2 (by decide) (by decide)).isToks
   have HRD := Lib.hid (scRead_any _ l W2 (HS.out.below HB2.out (Nat.le_refl _)) ht2 hl2 hl1 hl3)
   have HPS : Box (∀ s, readP smP primeErr ntP l = .ok s → ScSm s) := ⟨fun s h => readP_small hl1 hl3 hl4 h⟩
   have HOUT : Box (out = match readP smP primeErr ntP l with | .error f => .err f.line f.col f.err | .ok s => if scErr s = 0 then .ok s else .err 0 0 (scErr s)) := ⟨HPP.out⟩
   have HNF : Box (∀ f, readP smP primeErr ntP l = .error f → f.err ≠ 0) := ⟨fun f h => readP_err h⟩
   clear HPP HNZ HTO ht hl1 hl2 hl3 hl4
   generalize readP smP primeErr ntP l = R at *
   clear HP1 HQ1 HB1 hk2 ht2
   go_wp2_with fail
   rw [← hW2]
   clear hW2 p0 p1 q0 q1 f0 f1 f2 f3
   refine HRD.out.mono ?_
   rintro e w2 ⟨hp, hb2⟩
   have HP3 := Lib.hid (HP2.out.below hb2 HP2.out.lt)
   have HQ3 := Lib.hid (HQ2.out.below hb2 HQ2.out.lt)
   have HB3 := Lib.hid (HB2.out.trans (hb2.mono HB2.out.size))
   have HP3a := HP3.out.alloc (.cells #[.int .i64 0, .int .i64 0, .int .i64 0] 85)
   have HQ3a := HQ3.out.alloc (.cells #[.int .i64 0, .int .i64 0, .int .i64 0] 85)
   have HF3a := Cells.new w2 85 #[.int .i64 0, .int .i64 0, .int .i64 0]
   have HB3a := HB3.out.alloc HB3.out.size (.cells #[.int .i64 0, .int .i64 0, .int .i64 0] 85)
   have hPF : w.heap.size ≠ w2.heap.size := by have := HQ3.out.lt; omega
   have hQF : w.heap.size + 1 ≠ w2.heap.size := by have := HQ3.out.lt; omega
   have hwF : w.heap.size ≤ w2.heap.size := HB3.out.size
   replace HP3 := Lib.hid HP3a
   replace HQ3 := Lib.hid HQ3a
   replace HB3 := Lib.hid HB3a
   have HF3 := Lib.hid HF3a
   clear hb2 HP2 HQ2 HB2 HRD HP3a HQ3a HF3a HB3a
   obtain ⟨p0, p1⟩ := cel2 HP3.out
   obtain ⟨q0, q1⟩ := cel2 HQ3.out
   obtain ⟨g0, g1, g2⟩ := cel3 HF3.out
   have f0 := HP3.out.free 0
   have f1 := HP3.out.free 1
   have f2 := HQ3.out.free 0
   have f3 := HQ3.out.free 1
   have e0 := HF3.out.free 0
   have e1 := HF3.out.free 1
   have e2 := HF3.out.free 2
   cases R with
   | error f =>
     have HE : Box (out = .err f.line f.col f.err) := ⟨HOUT.out⟩
     have hfe := HNF.out f rfl
     have hfb : (f.err != 0) = true := by rw [bne_iff_ne]; exact hfe
     obtain rfl := show e = .returned (.tuple #[.agg #[.slice Option.none 0 0, .slice Option.none 0 0], .agg #[.int .i64 f.line, .int .i64 f.col, .int .i64 f.err]]) from hp
     clear hp HPS HOUT HNF hfe
     go_upto_region 5 with (fail)
     obtain ⟨W4, hW4⟩ : ∃ W4, W4 = pfW (w2.alloc (.cells #[.int .i64 0, .int .i64 0, .int .i64 0] 85)) w.heap.size w2.heap.size (.slice Option.none 0 0) (.slice Option.none 0 0) (.int .i64 f.line) (.int .i64 f.col) (.int .i64 f.err) := ⟨_, rfl⟩
     obtain ⟨HP4, HQ4, HF4, hk4, hb4⟩ := pf_set HP3.out HQ3.out HF3.out hPF hPQ hQF (.slice Option.none 0 0) (.slice Option.none 0 0) (.int .i64 f.line) (.int .i64 f.col) (.int .i64 f.err)
     rw [← hW4] at HP4 HQ4 HF4 hk4 hb4
     have HB4 := hb4 w.heap.size w HB3.out (Nat.le_refl _) hwF
     unfold pfW at hW4
     rw [← hW4]
     clear hW4 hb4 p0 p1 q0 q1 f0 f1 f2 f3 g0 g1 g2 e0 e1 e2
     have HP5 := Lib.hid HP4
     have HQ5 := Lib.hid HQ4
     have HF5 := Lib.hid HF4
     have HB5 := Lib.hid HB4
     have HK5 := Lib.hid hk4
     clear HP4 HQ4 HF4 HB4 hk4
     obtain ⟨F, hF⟩ : ∃ F, F = w2.heap.size := ⟨_, rfl⟩
     rw [← hF] at HF5 ⊢
     have hn1 : w.heap.size ≠ F := by omega
     have hn2 : F ≠ w.heap.size := by omega
     have hn3 : w.heap.size + 1 ≠ F := by omega
     have hn4 : F ≠ w.heap.size + 1 := by omega
     clear hF
     obtain ⟨p0, p1⟩ := cel2 HP5.out
     obtain ⟨q0, q1⟩ := cel2 HQ5.out
     obtain ⟨g0, g1, g2⟩ := cel3 HF5.out
     have f0 := HP5.out.free 0
     have f1 := HP5.out.free 1
     have f2 := HQ5.out.free 0
     have f3 := HQ5.out.free 1
     go_wp2_with fail
     go_region
     go_wp2_with fail
     obtain ⟨c1, c2, hkE, hbe⟩ := two_set HP5.out HQ5.out hPQ (.slice Option.none 0 0) (.slice Option.none 0 0) (.int .i64 f.line) (.int .i64 f.col)
     have hd1 : ∀ W : World, Below W.heap.size W W.drew := fun W => below_to_drew (Below.refl _ _)
     obtain ⟨z0, z1⟩ := cel2 (c1.below (hd1 _) c1.lt)
     obtain ⟨z2, z3⟩ := cel2 (c2.below (hd1 _) c2.lt)
     refine bodyPost_ret (v := .tuple #[.agg #[.slice Option.none 0 0, .slice Option.none 0 0], .agg #[.int .i64 f.line, .int .i64 f.col], .int .i64 f.err]) (by simp (maxDischargeDepth := 10) [results, Tryz.results7, go_sem, z0, z1, z2, z3]) rfl ⟨by rw [HE.out]; rfl, ?_⟩
     exact below_to_drew (hbe w.heap.size w HB5.out (Nat.le_refl _) (Nat.le_succ _))
   | ok s =>
     obtain ⟨pv, vv, rfl, hsv⟩ := hp
     have HSM := HPS.out s rfl
     have HE : Box (out = if scErr s = 0 then .ok s else .err 0 0 (scErr s)) := ⟨HOUT.out⟩
     have HSV := Lib.hid (hsv.lift ((Below.refl _ _).alloc (Nat.le_refl _) (.cells #[.int .i64 0, .int .i64 0, .int .i64 0] 85)))
     obtain ⟨hpq, AV, cV, rfl, _⟩ := hsv
     obtain ⟨AP, cp, rfl, _⟩ := hpq.shape
     clear HPS HOUT HNF hpq
     go_upto_region 5 with (fail)
     obtain ⟨W4, hW4⟩ : ∃ W4, W4 = pfW (w2.alloc (.cells #[.int .i64 0, .int .i64 0, .int .i64 0] 85)) w.heap.size w2.heap.size (.slice AP s.primes.length cp) (.slice AV s.voices.length cV) (.int .i64 0) (.int .i64 0) (.int .i64 0) := ⟨_, rfl⟩
     obtain ⟨HP4, HQ4, HF4, hk4, hb4⟩ := pf_set HP3.out HQ3.out HF3.out hPF hPQ hQF (.slice AP s.primes.length cp) (.slice AV s.voices.length cV) (.int .i64 0) (.int .i64 0) (.int .i64 0)
     rw [← hW4] at HP4 HQ4 HF4 hk4 hb4
     have HB4 := hb4 w.heap.size w HB3.out (Nat.le_refl _) hwF
     unfold pfW at hW4
     rw [← hW4]
     clear hW4 hb4 p0 p1 q0 q1 f0 f1 f2 f3 g0 g1 g2 e0 e1 e2
     have HP5 := Lib.hid HP4
     have HQ5 := Lib.hid HQ4
     have HF5 := Lib.hid HF4
     have HB5 := Lib.hid HB4
     have HK5 := Lib.hid hk4
     clear HP4 HQ4 HF4 HB4 hk4
     obtain ⟨F, hF⟩ : ∃ F, F = w2.heap.size := ⟨_, rfl⟩
     rw [← hF] at HF5 ⊢
     have hn1 : w.heap.size ≠ F := by omega
     have hn2 : F ≠ w.heap.size := by omega
     have hn3 : w.heap.size + 1 ≠ F := by omega
     have hn4 : F ≠ w.heap.size + 1 := by omega
     clear hF
     obtain ⟨p0, p1⟩ := cel2 HP5.out
     obtain ⟨q0, q1⟩ := cel2 HQ5.out
     obtain ⟨g0, g1, g2⟩ := cel3 HF5.out
     have f0 := HP5.out.free 0
     have f1 := HP5.out.free 1
     have f2 := HQ5.out.free 0
     have f3 := HQ5.out.free 1
     have HSV5 := Lib.hid (HSV.out.keep HK5.out (by decide) (by decide) (by decide) (by decide) HK5.out.size)
     have HCK := Lib.hid (scCheck_any _ _ s W4 (HS.out.below HB5.out (Nat.le_refl _)) HSV5.out HSM)
     clear HSM HSV HK5
     go_wp2_with fail
     refine HCK.out.mono ?_
     rintro e w6 ⟨rfl, hb6⟩
     replace HP5 := Lib.hid (HP5.out.below hb6 HP5.out.lt)
     replace HQ5 := Lib.hid (HQ5.out.below hb6 HQ5.out.lt)
     replace HB5 := Lib.hid (HB5.out.trans (hb6.mono HB5.out.size))
     replace HSV5 := Lib.hid (HSV5.out.lift hb6)
     clear hb6 p0 p1 q0 q1 g0 g1 g2 f0 f1 f2 f3 HF5 HCK
     obtain ⟨p0, p1⟩ := cel2 HP5.out
     obtain ⟨q0, q1⟩ := cel2 HQ5.out
     have f0 := HP5.out.free 0
     have f1 := HP5.out.free 1
     have f2 := HQ5.out.free 0
     have f3 := HQ5.out.free 1
     by_cases hz : scErr s = 0
     ·have HE2 : Box (out = .ok s) := ⟨by rw [HE.out, if_pos hz]⟩
      rw [hz]
      clear hz HE
      go_wp2_with fail
      obtain ⟨c1, c2, hkE, hbe⟩ := two_set HP5.out HQ5.out hPQ (.slice AP s.primes.length cp) (.slice AV s.voices.length cV) (.int .i64 0) (.int .i64 0)
      obtain ⟨z0, z1⟩ := cel2 c1
      obtain ⟨z2, z3⟩ := cel2 c2
      refine bodyPost_ret (v := .tuple #[.agg #[.slice AP s.primes.length cp, .slice AV s.voices.length cV], .agg #[.int .i64 0, .int .i64 0], .int .i64 0]) (by simp (maxDischargeDepth := 10) [results, Tryz.results7, go_sem, z0, z1, z2, z3]) rfl ⟨by rw [HE2.out]; exact ⟨_, _, rfl, HSV5.out.keep hkE (by decide) (by decide) (by decide) (by decide) hkE.size⟩, ?_⟩
      exact hbe w.heap.size w HB5.out (Nat.le_refl _) (Nat.le_succ _)
     ·have HE2 : Box (out = .err 0 0 (scErr s)) := ⟨by rw [HE.out, if_neg hz]⟩
      have hzb : (scErr s != 0) = true := by rw [bne_iff_ne]; exact hz
      generalize scErr s = er at *
      clear hz HE
      go_wp2_with fail
      obtain ⟨c1, c2, hkE, hbe⟩ := two_set HP5.out HQ5.out hPQ (.slice Option.none 0 0) (.slice Option.none 0 0) (.int .i64 0) (.int .i64 0)
      obtain ⟨z0, z1⟩ := cel2 c1
      obtain ⟨z2, z3⟩ := cel2 c2
      refine bodyPost_ret (v := .tuple #[.agg #[.slice Option.none 0 0, .slice Option.none 0 0], .agg #[.int .i64 0, .int .i64 0], .int .i64 er]) (by simp (maxDischargeDepth := 10) [results, Tryz.results7, go_sem, z0, z1, z2, z3]) rfl ⟨by rw [HE2.out]; rfl, ?_⟩
      exact hbe w.heap.size w HB5.out (Nat.le_refl _) (Nat.le_succ _)
end Go.Proofs.YtaaeekahhhookaaGreatDoor
