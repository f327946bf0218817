/- LexerEquals: the walk. -/
import Derived.Test.YtagfnnongamneaaGreatDoorGN
import Derived.Test.YtagfnnongamneaaGreatDoorGP
import Derived.Test.YtagfnnongamneaaGreatDoorGO
namespace Go.Proofs.YtagfnnongamneaaGreatDoor
open Go.RowKit Go.Lib

theorem toks_new2 (w : World) (a b : Tok) (ra rb : Value) (ha : IsRow w w.heap.size ra a.row) (hb : IsRow w w.heap.size rb b.row) :
    IsToks (w.alloc (.cells #[.int .i64 a.kind, .string ⟨a.text.toArray⟩, .string ⟨a.num.toArray⟩, .string ⟨a.den.toArray⟩, ra, .int .i64 a.line, .int .i64 a.col, .int .i64 b.kind, .string ⟨b.text.toArray⟩, .string ⟨b.num.toArray⟩, .string ⟨b.den.toArray⟩, rb, .int .i64 b.line, .int .i64 b.col] 43)) (w.heap.size + 1) (.slice (some ⟨w.heap.size, 0, Option.none⟩) 2 2) [a, b] := by
  have hn := Cells.new w 43 #[.int .i64 a.kind, .string ⟨a.text.toArray⟩, .string ⟨a.num.toArray⟩, .string ⟨a.den.toArray⟩, ra, .int .i64 a.line, .int .i64 a.col, .int .i64 b.kind, .string ⟨b.text.toArray⟩, .string ⟨b.num.toArray⟩, .string ⟨b.den.toArray⟩, rb, .int .i64 b.line, .int .i64 b.col]
  have hba : Below w.heap.size w (w.alloc (.cells #[.int .i64 a.kind, .string ⟨a.text.toArray⟩, .string ⟨a.num.toArray⟩, .string ⟨a.den.toArray⟩, ra, .int .i64 a.line, .int .i64 a.col, .int .i64 b.kind, .string ⟨b.text.toArray⟩, .string ⟨b.num.toArray⟩, .string ⟨b.den.toArray⟩, rb, .int .i64 b.line, .int .i64 b.col] 43)) := (Below.refl _ _).alloc (Nat.le_refl _) _
  refine ⟨some ⟨w.heap.size, 0, Option.none⟩, 2, [ra, rb], rfl, Nat.le_refl _, by unfold maxLen; omega, rfl, ⟨rfl, fun k u hu => ⟨_, rfl, Nat.lt_succ_self _, ?_⟩⟩, fun k t rv h1 h2 => ?_⟩
  · rw [show (⟨w.heap.size, 0, Option.none⟩ : Addr).add k = ⟨w.heap.size, k, Option.none⟩ by unfold Addr.add; split <;> simp_all, hn.cell k]
    exact hu
  · match k, h1, h2 with
    | 0, h1, h2 =>
      simp at h1 h2
      subst h1 h2
      exact (ha.keep hba).up (Nat.le_succ _)
    | 1, h1, h2 =>
      simp at h1 h2
      subst h1 h2
      exact (hb.keep hba).up (Nat.le_succ _)
    | k + 2, h1, _ => simp at h1
theorem tokEq_refl (t : Tok) : tokEq t t = true := by unfold tokEq; simp [sameB]

set_option maxRecDepth 100000 in
set_option maxHeartbeats 8000000 in
theorem lxEq_walk (t0 : Tok) (v0 : Value) (t1 : Tok) (v1 : Value) (w : World) (hS : Std w) (hL : ∃ m, w.cell? ⟨0, 0, Option.none⟩ = some (.int .i64 m)) (h0 : IsRow w w.heap.size v0 t0.row) (_f0 : t0.Fits) (h1 : IsRow w w.heap.size v1 t1.row) (_f1 : t1.Fits) :
    Calls Tryz.prog 6 #[.agg #[.int .i64 t0.kind, .string ⟨t0.text.toArray⟩, .string ⟨t0.num.toArray⟩, .string ⟨t0.den.toArray⟩, v0, .int .i64 t0.line, .int .i64 t0.col], .agg #[.int .i64 t1.kind, .string ⟨t1.text.toArray⟩, .string ⟨t1.num.toArray⟩, .string ⟨t1.den.toArray⟩, v1, .int .i64 t1.line, .int .i64 t1.col]] w fun e w' => e = .returned (.bool true) ∧ Below w.heap.size w w' := by
  have HK := Lib.hid (fun W h1 h2 => known47 W h1 h2)
  have HS := Lib.hid hS
  have HLI : Hid (LenIs w) := Lib.hid hL
  have HR0 := Lib.hid h0
  have HR1 := Lib.hid h1
  have HT := Lib.hid (fun W h1 h2 => toks_new2 W t0 t1 v0 v1 h1 h2)
  have HSH := Lib.hid (fun v W h => short_any v [t0, t1] W h)
  have HE1 := Lib.hid (fun W h1 h2 => lexEqual_any t0 t1 v0 v1 W h1 h2)
  have HE2 := Lib.hid (fun W h1 h2 => lawEqual_any t0 t1 v0 v1 W h1 h2)
  have HE3 := Lib.hid (fun W h1 => lexEqual_any t0 t0 v0 v0 W h1 h1)
  rw [tokEq_refl] at HE3
  obtain ⟨A0, c0, rfl, _⟩ := h0
  obtain ⟨A1, c1, rfl, _⟩ := h1
  clear hS hL _f0 _f1
  generalize shortB [t0, t1] = sb at *
  generalize tokEq t0 t1 = tb at *
  obtain ⟨k0, x0, n0, d0, r0, l0, o0⟩ := t0
  obtain ⟨k1, x1, n1, d1, r1, l1, o1⟩ := t1
  dsimp only at *
  generalize r0.length = m0 at *
  generalize r1.length = m1 at *
  go_enter Tryz.func6, Tryz.ntmps6
  go_wp2_with fail
  obtain ⟨W2, hW2⟩ : ∃ W2, W2 = (w.alloc (.cells #[.int .i64 k0, .string ⟨x0.toArray⟩, .string ⟨n0.toArray⟩, .string ⟨d0.toArray⟩, .slice A0 m0 c0, .int .i64 l0, .int .i64 o0] 43)).alloc (.cells #[.int .i64 k1, .string ⟨x1.toArray⟩, .string ⟨n1.toArray⟩, .string ⟨d1.toArray⟩, .slice A1 m1 c1, .int .i64 l1, .int .i64 o1] 43) := ⟨_, rfl⟩
  have C1 : Cells W2 w.heap.size 43 [.int .i64 k0, .string ⟨x0.toArray⟩, .string ⟨n0.toArray⟩, .string ⟨d0.toArray⟩, .slice A0 m0 c0, .int .i64 l0, .int .i64 o0] := by rw [hW2]; exact (Cells.new w _ _).alloc _
  have C2 : Cells W2 (w.heap.size + 1) 43 [.int .i64 k1, .string ⟨x1.toArray⟩, .string ⟨n1.toArray⟩, .string ⟨d1.toArray⟩, .slice A1 m1 c1, .int .i64 l1, .int .i64 o1] := by
    have h := Cells.new (w.alloc (.cells #[.int .i64 k0, .string ⟨x0.toArray⟩, .string ⟨n0.toArray⟩, .string ⟨d0.toArray⟩, .slice A0 m0 c0, .int .i64 l0, .int .i64 o0] 43)) 43 #[.int .i64 k1, .string ⟨x1.toArray⟩, .string ⟨n1.toArray⟩, .string ⟨d1.toArray⟩, .slice A1 m1 c1, .int .i64 l1, .int .i64 o1]
    rw [World.size_alloc] at h
    rw [hW2]; exact h
  have hbw : Below w.heap.size w W2 := by rw [hW2]; exact ((Below.refl _ _).alloc (Nat.le_refl _) _).alloc (by simp) _
  rw [← hW2]
  clear hW2
  refine (HK.out _ (HS.out.below hbw (Nat.le_refl _)) (HLI.out.below hbw)).mono ?_
  rintro e w3 ⟨rfl, hb⟩
  replace C1 := C1.below hb C1.lt
  replace C2 := C2.below hb C2.lt
  replace hbw := hbw.trans (hb.mono hbw.size)
  clear hb
  have HC1 := Lib.hid C1
  have HC2 := Lib.hid C2
  obtain ⟨⟨p0, p1, p2, p3, p4, p5, p6⟩, _⟩ := cells7 C1
  obtain ⟨⟨q0, q1, q2, q3, q4, q5, q6⟩, _⟩ := cells7 C2
  clear C1 C2
  go_wp2_with fail
  have hnew := HT.out w3 (HR0.out.lift hbw) (HR1.out.lift hbw)
  have hba : Below w3.heap.size w3 (w3.alloc (.cells #[.int .i64 k0, .string ⟨x0.toArray⟩, .string ⟨n0.toArray⟩, .string ⟨d0.toArray⟩, .slice A0 m0 c0, .int .i64 l0, .int .i64 o0, .int .i64 k1, .string ⟨x1.toArray⟩, .string ⟨n1.toArray⟩, .string ⟨d1.toArray⟩, .slice A1 m1 c1, .int .i64 l1, .int .i64 o1] 43)) := (Below.refl _ _).alloc (Nat.le_refl _) _
  refine (HSH.out _ _ (by rw [World.size_alloc]; exact hnew)).mono ?_
  rintro e w4 ⟨rfl, hb⟩
  have hb3 : Below w3.heap.size w3 w4 := hba.trans (hb.mono hba.size)
  replace hbw := hbw.trans (hb3.mono hbw.size)
  have C1 := HC1.out.below hb3 HC1.out.lt
  have C2 := HC2.out.below hb3 HC2.out.lt
  clear hb hba hnew hb3 p0 p1 p2 p3 p4 p5 p6 q0 q1 q2 q3 q4 q5 q6 HC1 HC2 HT HSH
  cases sb with
  | false =>
    clear C1 C2
    go_wp2_with fail
    refine (HK.out _ (HS.out.below hbw (Nat.le_refl _)) (HLI.out.below hbw)).mono ?_
    rintro e w5 ⟨rfl, hb⟩
    go_wp2_with fail
    go_ret
    exact ⟨rfl, hbw.trans (hb.mono hbw.size)⟩
  | true =>
    obtain ⟨⟨p0, p1, p2, p3, p4, p5, p6⟩, _⟩ := cells7 C1
    obtain ⟨⟨q0, q1, q2, q3, q4, q5, q6⟩, _⟩ := cells7 C2
    have HQ1 : Hid (∀ W, Below w4.heap.size w4 W → Calls Tryz.prog 19 #[.agg #[.int .i64 k0, .string ⟨x0.toArray⟩, .string ⟨n0.toArray⟩, .string ⟨d0.toArray⟩, .slice A0 m0 c0, .int .i64 l0, .int .i64 o0], .agg #[.int .i64 k1, .string ⟨x1.toArray⟩, .string ⟨n1.toArray⟩, .string ⟨d1.toArray⟩, .slice A1 m1 c1, .int .i64 l1, .int .i64 o1]] W fun e w' => e = .returned (.bool tb) ∧ Below W.heap.size W w') := Lib.hid (fun W hb => HE1.out W ((HR0.out.lift hbw).lift hb) ((HR1.out.lift hbw).lift hb))
    have HQ2 : Hid (∀ W, Below w4.heap.size w4 W → Calls Tryz.prog 20 #[.agg #[.int .i64 k0, .string ⟨x0.toArray⟩, .string ⟨n0.toArray⟩, .string ⟨d0.toArray⟩, .slice A0 m0 c0, .int .i64 l0, .int .i64 o0], .agg #[.int .i64 k1, .string ⟨x1.toArray⟩, .string ⟨n1.toArray⟩, .string ⟨d1.toArray⟩, .slice A1 m1 c1, .int .i64 l1, .int .i64 o1]] W fun e w' => e = .returned (.bool tb) ∧ Below W.heap.size W w') := Lib.hid (fun W hb => HE2.out W ((HR0.out.lift hbw).lift hb) ((HR1.out.lift hbw).lift hb))
    have HQ3 : Hid (∀ W, Below w4.heap.size w4 W → Calls Tryz.prog 19 #[.agg #[.int .i64 k0, .string ⟨x0.toArray⟩, .string ⟨n0.toArray⟩, .string ⟨d0.toArray⟩, .slice A0 m0 c0, .int .i64 l0, .int .i64 o0], .agg #[.int .i64 k0, .string ⟨x0.toArray⟩, .string ⟨n0.toArray⟩, .string ⟨d0.toArray⟩, .slice A0 m0 c0, .int .i64 l0, .int .i64 o0]] W fun e w' => e = .returned (.bool true) ∧ Below W.heap.size W w') := Lib.hid (fun W hb => HE3.out W ((HR0.out.lift hbw).lift hb))
    have HBW := Lib.hid hbw
    clear C1 C2 HE1 HE2 HE3 HR0 HR1 hbw HK HS HLI
    have hB : Below w4.heap.size w4 w4.drew := below_to_drew2 (Below.refl _ _)
    go_wp2_with fail
    go_region_held3 (fun w' => w'.cell? ⟨w.heap.size, 0, Option.none⟩ = some (.int .i64 k0) ∧ w'.cell? ⟨w.heap.size, 1, Option.none⟩ = some (.string ⟨x0.toArray⟩) ∧ w'.cell? ⟨w.heap.size, 2, Option.none⟩ = some (.string ⟨n0.toArray⟩) ∧ w'.cell? ⟨w.heap.size, 3, Option.none⟩ = some (.string ⟨d0.toArray⟩) ∧ w'.cell? ⟨w.heap.size, 4, Option.none⟩ = some (.slice A0 m0 c0) ∧ w'.cell? ⟨w.heap.size, 5, Option.none⟩ = some (.int .i64 l0) ∧ w'.cell? ⟨w.heap.size, 6, Option.none⟩ = some (.int .i64 o0) ∧ w'.cell? ⟨w.heap.size + 1, 0, Option.none⟩ = some (.int .i64 k1) ∧ w'.cell? ⟨w.heap.size + 1, 1, Option.none⟩ = some (.string ⟨x1.toArray⟩) ∧ w'.cell? ⟨w.heap.size + 1, 2, Option.none⟩ = some (.string ⟨n1.toArray⟩) ∧ w'.cell? ⟨w.heap.size + 1, 3, Option.none⟩ = some (.string ⟨d1.toArray⟩) ∧ w'.cell? ⟨w.heap.size + 1, 4, Option.none⟩ = some (.slice A1 m1 c1) ∧ w'.cell? ⟨w.heap.size + 1, 5, Option.none⟩ = some (.int .i64 l1) ∧ w'.cell? ⟨w.heap.size + 1, 6, Option.none⟩ = some (.int .i64 o1))
      (first | exact ⟨keep_cell p0 hB, keep_cell p1 hB, keep_cell p2 hB, keep_cell p3 hB, keep_cell p4 hB, keep_cell p5 hB, keep_cell p6 hB, keep_cell q0 hB, keep_cell q1 hB, keep_cell q2 hB, keep_cell q3 hB, keep_cell q4 hB, keep_cell q5 hB, keep_cell q6 hB⟩ | go_keep)
      ((first | (go_at_call 19; (with_reducible refine (HQ1.out _ hB).mono ?_); rintro e w7 ⟨rfl, hbk⟩; replace hB := hB.trans (hbk.mono hB.size); clear hbk) | (go_at_call 20; (with_reducible refine (HQ2.out _ hB).mono ?_); rintro e w7 ⟨rfl, hbk⟩; replace hB := hB.trans (hbk.mono hB.size); clear hbk) | (go_at_call 19; (with_reducible refine (HQ3.out _ hB).mono ?_); rintro e w7 ⟨rfl, hbk⟩; replace hB := hB.trans (hbk.mono hB.size); clear hbk)))
    all_goals
      go_wp2_with fail
      go_ret
      exact ⟨rfl, HBW.out.trans (hB.mono HBW.out.size)⟩

end Go.Proofs.YtagfnnongamneaaGreatDoor
