/- lexer.bracket and lexer.next. -/
import Derived.Test.YtagfnnongamneaaGreatDoorLex3G
namespace Go.Proofs.YtagfnnongamneaaGreatDoor
open Go.RowKit Go.Lib

theorem u8_toNat_eq {c : UInt8} {n : Nat} (h : n < 256) : c.toNat = n ↔ c = UInt8.ofNat n := by
  constructor
  · intro e; rw [← e]; simp
  · intro e; rw [e, UInt8.toNat_ofNat']; omega

theorem indexByte_bd : ∀ (l : List UInt8) (c : UInt8), -1 ≤ Lib.indexByte l c ∧ Lib.indexByte l c < l.length
  | [], c => ⟨by rw [Lib.indexByte]; omega, by rw [Lib.indexByte]; simp⟩
  | b :: t, c => by
    have ih := indexByte_bd t c
    rw [Lib.indexByte, List.length_cons]
    split
    · omega
    · split
      · omega
      · omega

theorem innerRead_bad {l : List UInt8} {k : Bool} {e : Int} (h : innerRead l k = .bad e) : e ≠ 0 := by
  unfold innerRead at h
  repeat' split at h
  all_goals first | (injection h with h; omega) | cases h
theorem rowRead_bad {s : List UInt8} {e : Int} (h : rowRead s = .bad e) : e ≠ 0 := by
  unfold rowRead endRead at h
  repeat' split at h
  all_goals first | exact innerRead_bad h | (injection h with h; omega) | cases h

/-- The block of a result, in a later world. -/
theorem block_below {w w' : World} {o : Obj} (hb : Below (w.heap.size + 1) (w.alloc o) w') : w'.heap[w.heap.size]? = some o := (hb.block _ (by omega)).trans (heap_alloc_new _ _)
theorem TRow.store7 {w w2 : World} {v : Value} {x : List Int} {cs : Array Value} {T : TypeId} {p : Nat × Nat} (h : TRow w2 v x) (hg : w2.heap[w.heap.size]? = some (Obj.cells cs T p)) (hT : T ≠ 3) (a0 a1 a2 a3 a4 a5 a6 : Value) :
    TRow (((((((w2.setCell ⟨w.heap.size, 0, Option.none⟩ a0).setCell ⟨w.heap.size, 1, Option.none⟩ a1).setCell ⟨w.heap.size, 2, Option.none⟩ a2).setCell ⟨w.heap.size, 3, Option.none⟩ a3).setCell ⟨w.heap.size, 4, Option.none⟩ a4).setCell ⟨w.heap.size, 5, Option.none⟩ a5).setCell ⟨w.heap.size, 6, Option.none⟩ a6) v x := by
  refine h.keep fun g cur q hc => ?_
  have hne : g ≠ w.heap.size := fun e => by
    subst e
    rw [hg] at hc
    injection hc with hc
    injection hc with _ hc _
    exact hT hc
  rw [Below.heap_setCell _ _ _ _ hne, Below.heap_setCell _ _ _ _ hne, Below.heap_setCell _ _ _ _ hne, Below.heap_setCell _ _ _ _ hne, Below.heap_setCell _ _ _ _ hne, Below.heap_setCell _ _ _ _ hne, Below.heap_setCell _ _ _ _ hne]

set_option maxRecDepth 100000 in
set_option maxHeartbeats 2000000 in
theorem bracket_any (s : List UInt8) (w : World) (hS : Std w) (hL : LenIs w) (hl : s.length ≤ 70000) (h0 : 0 < s.length) :
    Calls Tryz.prog 91 #[.string ⟨s.toArray⟩] w fun e w' => TokPost w' (brackRead s) e ∧ Below w.heap.size w w' := by
  have hx0 := ba_at s 0
  have HI := Lib.hid (fun W => indexByte_any s (brackEnd s) W)
  obtain ⟨hge, hlt⟩ := indexByte_bd s (brackEnd s)
  have hbl : Lib.indexByte s (brackEnd s) + 1 = ((brackLen s : Nat) : Int) := by unfold brackLen; omega
  have hbl2 : brackLen s ≤ s.length := by omega
  have HR := Lib.hid (fun W h1 h2 => rowParse_any (s.take (brackLen s)) W h1 h2 (by rw [List.length_take]; omega))
  have hx2 : (⟨s.toArray⟩ : ByteArray).extract 0 (brackLen s) = ⟨(s.take (brackLen s)).toArray⟩ := ba_ext (by rw [ext_eq]; simp)
  unfold brackRead
  have HB : Box (∀ er, rowRead (s.take (brackLen s)) = .bad er → er ≠ 0) := ⟨fun er h => rowRead_bad h⟩
  have HTL : Box ((s.take (brackLen s)).length = brackLen s) := ⟨by rw [List.length_take]; omega⟩
  generalize rowRead (s.take (brackLen s)) = rr at *
  generalize s.take (brackLen s) = t at *
  generalize brackLen s = n at *
  have HS := Lib.hid hS
  have HLI := Lib.hid hL
  clear hS hL
  have HK : Box ((s[0]?.getD 0 = 60 ∧ brackEnd s = 93 ∧ brackKind s = 4) ∨ (s[0]?.getD 0 ≠ 60 ∧ brackEnd s = 62 ∧ brackKind s = 3)) := ⟨by
    unfold brackEnd brackKind
    by_cases h : s[0]?.getD 0 = 60
    · rw [if_pos h, if_pos h]; exact .inl ⟨h, rfl, rfl⟩
    · rw [if_neg h, if_neg h]; exact .inr ⟨h, rfl, rfl⟩⟩
  generalize brackEnd s = be at *
  generalize brackKind s = bk at *
  generalize s[0]?.getD 0 = c at *
  generalize Lib.indexByte s be = ix at *
  have hix : IntKind.i64.wrap (ix + 1) = (n : Int) := by rw [hbl]; exact wrap_small _ (by omega) (by omega)
  by_cases hn0 : n = 0
  · rw [if_pos hn0]
    obtain ⟨hc, rfl, rfl⟩ | ⟨hc, rfl, rfl⟩ := HK.out
    · have hq : ((c.toNat : Int) == 60) = true := by rw [hc]; rfl
      clear HB HR HTL HK hc
      go_enter Tryz.func91, Tryz.ntmps91
      go_wp2_with fail
      refine (HI.out _).mono ?_
      rintro e w1 ⟨rfl, rfl⟩
      go_wp2_with fail
      refine bodyPost_ret (v := .tuple #[.agg #[.int .i64 0, .string ⟨#[]⟩, .string ⟨#[]⟩, .string ⟨#[]⟩, .slice Option.none 0 0, .int .i64 0, .int .i64 0], .int .i64 15]) (by simp [results, Tryz.results91, go_sem]) rfl ⟨rfl, ?_⟩
      exact (Below.refl _ _).alloc (Nat.le_refl _) _
    · have hq : ((c.toNat : Int) == 60) = false := by rw [beq_eq_false_iff_ne]; intro hh; exact hc (UInt8.toNat_inj.1 (by show c.toNat = 60; omega))
      clear HB HR HTL HK hc
      go_enter Tryz.func91, Tryz.ntmps91
      go_wp2_with fail
      refine (HI.out _).mono ?_
      rintro e w1 ⟨rfl, rfl⟩
      go_wp2_with fail
      refine bodyPost_ret (v := .tuple #[.agg #[.int .i64 0, .string ⟨#[]⟩, .string ⟨#[]⟩, .string ⟨#[]⟩, .slice Option.none 0 0, .int .i64 0, .int .i64 0], .int .i64 15]) (by simp [results, Tryz.results91, go_sem]) rfl ⟨rfl, ?_⟩
      exact (Below.refl _ _).alloc (Nat.le_refl _) _
  rw [if_neg hn0]
  cases rr with
  | bad er =>
    have her : (er != 0) = true := by have := HB.out er rfl; simpa using this
    obtain ⟨hc, rfl, rfl⟩ | ⟨hc, rfl, rfl⟩ := HK.out
    · have hq : ((c.toNat : Int) == 60) = true := by rw [hc]; rfl
      clear HK hc HTL
      go_enter Tryz.func91, Tryz.ntmps91
      go_wp2_with fail
      refine (HI.out _).mono ?_
      rintro e w1 ⟨rfl, rfl⟩
      go_wp2_with fail
      refine (HR.out _ (HS.out.alloc _) (HLI.out.below ((Below.refl _ _).alloc (Nat.le_refl _) _))).mono ?_
      rintro e w2 ⟨rfl, hb1⟩
      rw [World.size_alloc] at hb1
      obtain ⟨⟨q0, q1, q2, q3, q4, q5, q6⟩, ⟨f0, f1, f2, f3, f4, f5, f6⟩, hsz⟩ := tok_below hb1
      have hbw2 := below_result hb1
      go_wp2_with fail
      refine bodyPost_ret (v := .tuple #[.agg #[.int .i64 0, .string ⟨#[]⟩, .string ⟨#[]⟩, .string ⟨#[]⟩, .slice Option.none 0 0, .int .i64 0, .int .i64 0], .int .i64 er]) (by simp [results, Tryz.results91, go_sem, q0, q1, q2, q3, q4, q5, q6]) rfl ⟨rfl, ?_⟩
      exact below7 hbw2 _ _ _ _ _ _ _
    · have hq : ((c.toNat : Int) == 60) = false := by rw [beq_eq_false_iff_ne]; intro hh; exact hc (UInt8.toNat_inj.1 (by show c.toNat = 60; omega))
      clear HK hc HTL
      go_enter Tryz.func91, Tryz.ntmps91
      go_wp2_with fail
      refine (HI.out _).mono ?_
      rintro e w1 ⟨rfl, rfl⟩
      go_wp2_with fail
      refine (HR.out _ (HS.out.alloc _) (HLI.out.below ((Below.refl _ _).alloc (Nat.le_refl _) _))).mono ?_
      rintro e w2 ⟨rfl, hb1⟩
      rw [World.size_alloc] at hb1
      obtain ⟨⟨q0, q1, q2, q3, q4, q5, q6⟩, ⟨f0, f1, f2, f3, f4, f5, f6⟩, hsz⟩ := tok_below hb1
      have hbw2 := below_result hb1
      go_wp2_with fail
      refine bodyPost_ret (v := .tuple #[.agg #[.int .i64 0, .string ⟨#[]⟩, .string ⟨#[]⟩, .string ⟨#[]⟩, .slice Option.none 0 0, .int .i64 0, .int .i64 0], .int .i64 er]) (by simp [results, Tryz.results91, go_sem, q0, q1, q2, q3, q4, q5, q6]) rfl ⟨rfl, ?_⟩
      exact below7 hbw2 _ _ _ _ _ _ _
  | good x kt =>
    obtain ⟨hc, rfl, rfl⟩ | ⟨hc, rfl, rfl⟩ := HK.out
    · have hq : ((c.toNat : Int) == 60) = true := by rw [hc]; rfl
      clear HK hc HTL
      go_enter Tryz.func91, Tryz.ntmps91
      go_wp2_with fail
      refine (HI.out _).mono ?_
      rintro e w1 ⟨rfl, rfl⟩
      go_wp2_with fail
      refine (HR.out _ (HS.out.alloc _) (HLI.out.below ((Below.refl _ _).alloc (Nat.le_refl _) _))).mono ?_
      rintro e w2 ⟨⟨A, cc, rfl, htr⟩, hb1⟩
      rw [World.size_alloc] at hb1
      obtain ⟨⟨q0, q1, q2, q3, q4, q5, q6⟩, ⟨f0, f1, f2, f3, f4, f5, f6⟩, hsz⟩ := tok_below hb1
      have hbw2 := below_result hb1
      have HTR := Lib.hid htr
      have HBL := Lib.hid (block_below hb1)
      clear htr
      go_wp2_with fail
      refine bodyPost_ret (v := .tuple #[.agg #[.int .i64 4, .string ⟨t.toArray⟩, .string ⟨#[]⟩, .string ⟨#[]⟩, .slice A x.length cc, .int .i64 0, .int .i64 0], .int .i64 0]) (by simp [results, Tryz.results91, go_sem, q0, q1, q2, q3, q4, q5, q6]) rfl ⟨⟨.slice A x.length cc, rfl, HTR.out.store7 HBL.out (by decide) _ _ _ _ _ _ _⟩, ?_⟩
      exact below7 hbw2 _ _ _ _ _ _ _
    · have hq : ((c.toNat : Int) == 60) = false := by rw [beq_eq_false_iff_ne]; intro hh; exact hc (UInt8.toNat_inj.1 (by show c.toNat = 60; omega))
      clear HK hc HTL
      go_enter Tryz.func91, Tryz.ntmps91
      go_wp2_with fail
      refine (HI.out _).mono ?_
      rintro e w1 ⟨rfl, rfl⟩
      go_wp2_with fail
      refine (HR.out _ (HS.out.alloc _) (HLI.out.below ((Below.refl _ _).alloc (Nat.le_refl _) _))).mono ?_
      rintro e w2 ⟨⟨A, cc, rfl, htr⟩, hb1⟩
      rw [World.size_alloc] at hb1
      obtain ⟨⟨q0, q1, q2, q3, q4, q5, q6⟩, ⟨f0, f1, f2, f3, f4, f5, f6⟩, hsz⟩ := tok_below hb1
      have hbw2 := below_result hb1
      have HTR := Lib.hid htr
      have HBL := Lib.hid (block_below hb1)
      clear htr
      go_wp2_with fail
      refine bodyPost_ret (v := .tuple #[.agg #[.int .i64 3, .string ⟨t.toArray⟩, .string ⟨#[]⟩, .string ⟨#[]⟩, .slice A x.length cc, .int .i64 0, .int .i64 0], .int .i64 0]) (by simp [results, Tryz.results91, go_sem, q0, q1, q2, q3, q4, q5, q6]) rfl ⟨⟨.slice A x.length cc, rfl, HTR.out.store7 HBL.out (by decide) _ _ _ _ _ _ _⟩, ?_⟩
      exact below7 hbw2 _ _ _ _ _ _ _

end Go.Proofs.YtagfnnongamneaaGreatDoor
