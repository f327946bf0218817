/- lexer.number. -/
import Derived.Test.YtagfnnongamneaaGreatDoorLex2G
import Derived.Test.YtagfnnongamneaaGreatDoorGJ
import Derived.Deep.RegionHeld3
namespace Go.Proofs.YtagfnnongamneaaGreatDoor
open Go.RowKit Go.Lib

theorem fracRead_bad (t : List UInt8) (k e : Int) (h : fracRead t k = .bad e) : e ≠ 0 := by
  unfold fracRead at h
  repeat' split at h
  all_goals first | (injection h with h; omega) | cases h
theorem fracOf_bad {s : List UInt8} {e : Int} (h : fracOf s = .bad e) : e ≠ 0 := by
  unfold fracOf at h
  split at h
  · injection h with h; omega
  · exact fracRead_bad _ _ _ h

theorem fracRead_good {t : List UInt8} {k : Int} {n d : Nat} (h : fracRead t k = .good n d) (hl : t.length ≤ 400) : 0 < d ∧ (decDigits n).length ≤ 400 ∧ (decDigits d).length ≤ 401 := by
  have h1 : (decDigits 1).length = 1 := by rw [dec_small (by omega)]; rfl
  unfold fracRead at h
  split at h
  · split at h
    · rename_i ho
      injection h with h2 h3
      subst h2 h3
      have := dval_len ho
      exact ⟨by omega, by omega, by omega⟩
    · cases h
  · split at h
    · split at h
      · rename_i ho
        rw [Bool.and_eq_true] at ho
        have e1 := dval_len ho.1
        have e2 := dval_len ho.2
        have e3 : (t.take k.toNat).length ≤ 400 := by rw [List.length_take]; omega
        have e4 : (t.drop (k.toNat + 1)).length ≤ 400 := by rw [List.length_drop]; omega
        split at h
        · cases h
        · injection h with h2 h3
          subst h2 h3
          exact ⟨by omega, by omega, by omega⟩
      · cases h
    · split at h
      · rename_i ho
        rw [Bool.and_eq_true] at ho
        injection h with h2 h3
        subst h2 h3
        have e1 := dval_len (okDig_append ho.1 ho.2)
        have e3 : (t.take k.toNat ++ t.drop (k.toNat + 1)).length ≤ 400 := by rw [List.length_append, List.length_take, List.length_drop]; omega
        have e4 : (decDigits (10 ^ (t.length - k.toNat - 1))).length = t.length - k.toNat - 1 + 1 := by rw [dec_pow10]; simp
        exact ⟨Nat.pow_pos (by omega), by omega, by omega⟩
      · cases h
theorem fracOf_good {s : List UInt8} {n d : Nat} (h : fracOf s = .good n d) : 0 < d ∧ (decDigits n).length ≤ 400 ∧ (decDigits d).length ≤ 401 := by
  unfold fracOf at h
  split at h
  · cases h
  · refine fracRead_good h ?_
    have := trimPre_len s [45]
    omega
theorem low_len {n : Int} {d : Int} {k : Nat} (h1 : (decDigits n.natAbs).length ≤ k) (h2 : (decDigits d.natAbs).length ≤ k) : (itoa (lowN n d)).length ≤ k + 1 ∧ (itoa (lowD n d)).length ≤ k + 1 := by
  have a : (lowN n d).natAbs ≤ n.natAbs := by
    unfold lowN
    rw [Int.natAbs_ediv_of_dvd (Int.ofNat_dvd_left.2 (Nat.gcd_dvd_left _ _)), Int.natAbs_natCast]
    exact Nat.div_le_self _ _
  have b : (lowD n d).natAbs ≤ d.natAbs := by
    unfold lowD
    rw [Int.natAbs_ediv_of_dvd (Int.ofNat_dvd_left.2 (Nat.gcd_dvd_right _ _)), Int.natAbs_natCast]
    exact Nat.div_le_self _ _
  have a2 := dec_le_len a
  have b2 := dec_le_len b
  have a3 := itoa_len (lowN n d)
  have b3 := itoa_len (lowD n d)
  omega
theorem numTok_good (b : Bool) (k N D : Nat) : numTok b k (.good N D) = .good 2 (ratText (itoa (lowN (sgnd b N) D)) (itoa (lowD (sgnd b N) D))) (itoa (lowN (sgnd b N) D)) (itoa (lowD (sgnd b N) D)) [] k := rfl
theorem sgnd_abs (b : Bool) (n : Nat) : (sgnd b n).natAbs = n := by unfold sgnd; split <;> omega

set_option maxRecDepth 100000 in
set_option maxHeartbeats 2000000 in
theorem number_any (s : List UInt8) (w : World) (hS : Std w) (hl : s.length ≤ 70000) (h0 : 0 < s.length) (HP : Hid (∀ W, Std W → Calls Tryz.prog 41 #[.string ⟨(s.take (numLen s)).toArray⟩] W fun e w' => e = .returned (frdOut (isNeg (s.take (numLen s))) (fracOf (s.take (numLen s)))) ∧ Below W.heap.size W w')) :
    Calls Tryz.prog 90 #[.string ⟨s.toArray⟩] w fun e w' => NextPost w' (numRead s) e ∧ Below w.heap.size w w' := by
  have HL := Lib.hid (fun W => length_numc (s.drop 1) W (by simp; omega))
  have hle := runLen_le numB (s.drop 1)
  have hx1 : (⟨s.toArray⟩ : ByteArray).extract 1 s.length = ⟨(s.drop 1).toArray⟩ := ba_ext (by rw [ext_eq, mk_toList, mk_toList, List.take_of_length_le (Nat.le_refl _)])
  have hx2 : (⟨s.toArray⟩ : ByteArray).extract 0 (1 + runLen numB (s.drop 1)) = ⟨(s.take (numLen s)).toArray⟩ := ba_ext (by rw [ext_eq]; simp [numLen])
  have HN : Box (numLen s = 1 + runLen numB (s.drop 1)) := ⟨rfl⟩
  unfold numRead
  have hd : (s.drop 1).length = s.length - 1 := by simp
  have hle2 : 1 + runLen numB (s.drop 1) ≤ s.length := by omega
  clear hle hd
  generalize runLen numB (s.drop 1) = m at *
  generalize numLen s = n at *
  have hnm := HN.out
  subst hnm
  clear HN
  generalize s.take (1 + m) = t at *
  generalize s.drop 1 = u at *
  generalize isNeg t = b at *
  have HB : Box (∀ er, fracOf t = .bad er → er ≠ 0) := ⟨fun er h => fracOf_bad h⟩
  have HG : Box (∀ n d, fracOf t = .good n d → (itoa (lowN (sgnd b n) d)).length ≤ 1000 ∧ (itoa (lowD (sgnd b n) d)).length ≤ 1000) := ⟨fun n d h => by
    obtain ⟨h1, h2, h3⟩ := fracOf_good h
    have := low_len (n := sgnd b n) (d := (d : Int)) (k := 401) (by rw [sgnd_abs]; omega) (by rw [Int.natAbs_natCast]; omega)
    omega⟩
  have HS := Lib.hid hS
  clear hS
  generalize fracOf t = fr at *
  cases fr with
  | bad er =>
    rw [frdOut_bad] at HP
    have her : (er != 0) = true := by have := HB.out er rfl; simpa using this
    go_enter Tryz.func90, Tryz.ntmps90
    go_wp2_with fail
    refine (HL.out _).mono ?_
    rintro e w1 ⟨rfl, rfl⟩
    go_wp2_with fail
    refine (HP.out _ (HS.out.alloc _)).mono ?_
    rintro e w2 ⟨rfl, hb1⟩
    rw [World.size_alloc] at hb1
    obtain ⟨⟨q0, q1, q2, q3, q4, q5, q6⟩, ⟨f0, f1, f2, f3, f4, f5, f6⟩, hsz⟩ := tok_below hb1
    have hbw2 := below_result hb1
    go_wp2_with fail
    refine bodyPost_ret (v := .tuple #[.agg #[.int .i64 0, .string ⟨#[]⟩, .string ⟨#[]⟩, .string ⟨#[]⟩, .slice Option.none 0 0, .int .i64 0, .int .i64 0], .int .i64 0, .int .i64 2]) (by simp [results, Tryz.results90, go_sem, q0, q1, q2, q3, q4, q5, q6, hsz]) rfl ⟨rfl, ?_⟩
    exact (below7 hbw2 _ _ _ _ _ _ _).alloc (by have := hbw2.size; simp; omega) _
  | good N D =>
    rw [frdOut_good] at HP
    rw [numTok_good]
    obtain ⟨hla, hlb⟩ := HG.out N D rfl
    generalize itoa (lowN (sgnd b N) D) = la at *
    generalize itoa (lowD (sgnd b N) D) = lb at *
    have HT := Lib.hid (fun W => fracText_any la lb W (by omega) (by omega))
    generalize ratText la lb = lt at *
    go_enter Tryz.func90, Tryz.ntmps90
    go_wp2_with fail
    refine (HL.out _).mono ?_
    rintro e w1 ⟨rfl, rfl⟩
    go_wp2_with fail
    refine (HP.out _ (HS.out.alloc _)).mono ?_
    rintro e w2 ⟨rfl, hb1⟩
    rw [World.size_alloc] at hb1
    obtain ⟨⟨q0, q1, q2, q3, q4, q5, q6⟩, ⟨f0, f1, f2, f3, f4, f5, f6⟩, hsz⟩ := tok_below hb1
    have hbw2 := below_result hb1
    go_wp2_with fail
    have r0 : (w2.alloc (.cells #[.string ⟨la.toArray⟩, .string ⟨lb.toArray⟩] 39)).cell? ⟨w2.heap.size, 0, Option.none⟩ = some (.string ⟨la.toArray⟩) := by rw [World.cell?_alloc_new]; rfl
    have r1 : (w2.alloc (.cells #[.string ⟨la.toArray⟩, .string ⟨lb.toArray⟩] 39)).cell? ⟨w2.heap.size, 1, Option.none⟩ = some (.string ⟨lb.toArray⟩) := by rw [World.cell?_alloc_new]; rfl
    replace hb1 := hb1.alloc (by have := hb1.size; simp at this; omega) (.cells #[.string ⟨la.toArray⟩, .string ⟨lb.toArray⟩] 39)
    clear q0 q1 q2 q3 q4 q5 q6 f0 f1 f2 f3 f4 f5 f6
    generalize hWQ : w2.alloc (.cells #[.string ⟨la.toArray⟩, .string ⟨lb.toArray⟩] 39) = WQ at *
    have hne : w2.heap.size ≠ w.heap.size := by omega
    have hne2 : w.heap.size ≠ w2.heap.size := by omega
    clear hWQ hsz hbw2
    go_region_held3 (fun w' => w'.cell? ⟨w2.heap.size, 0, Option.none⟩ = some (.string ⟨la.toArray⟩) ∧ w'.cell? ⟨w2.heap.size, 1, Option.none⟩ = some (.string ⟨lb.toArray⟩))
      (first | go_keep | exact ⟨keep_drew r0 hbk, keep_drew r1 hbk⟩)
      ((first | (go_at_call 110; (with_reducible refine (HT.out _).mono ?_); rintro e w5 ⟨rfl, hbk⟩; obtain ⟨⟨q0, q1, q2, q3, q4, q5, q6⟩, ⟨f0, f1, f2, f3, f4, f5, f6⟩, hsz⟩ := tok_below (hb1.trans ((below_of_drew hbk).mono (by have := hb1.size; simp at this; omega))))))
    have hb2 := hb1.trans ((below_of_drew hbk).mono (by have := hb1.size; simp at this; omega))
    have hbw2 := below_result hb2
    go_wp2_with fail
    refine bodyPost_ret (v := .tuple #[.agg #[.int .i64 2, .string ⟨lt.toArray⟩, .string ⟨la.toArray⟩, .string ⟨lb.toArray⟩, .slice Option.none 0 0, .int .i64 0, .int .i64 0], .int .i64 (1 + m : Nat), .int .i64 0]) (by simp [results, Tryz.results90, go_sem, q0, q1, q2, q3, q4, q5, q6]) rfl ⟨⟨.slice Option.none 0 0, rfl, TRow.nil _ _ _ (by unfold maxLen; omega)⟩, ?_⟩
    exact below7 hbw2 _ _ _ _ _ _ _

end Go.Proofs.YtagfnnongamneaaGreatDoor
