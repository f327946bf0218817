/- fraction.Parse of the text of a right fraction. -/
import Derived.Test.YtjgpjhaeoiddbaaGreatDoorDigG
import Derived.Test.YtjgpjhaeoiddbaaGreatDoorGE
namespace Go.Proofs.YtjgpjhaeoiddbaaGreatDoor
open Go.RowKit Go.Lib

theorem index_none : ∀ (l : List UInt8), (∀ c ∈ l, isDig c) → Lib.indexAny l [47, 46] = -1
  | [], _ => rfl
  | c :: t, h => by
    have hc := h c (by simp)
    unfold isDig at hc
    have h1 : ([47, 46] : List UInt8).contains c = false := by
      rw [← Bool.not_eq_true, List.contains_iff_mem]
      intro hm
      simp at hm
      rcases hm with rfl | rfl
      · exact absurd hc.1 (by decide)
      · exact absurd hc.1 (by decide)
    rw [Lib.indexAny, h1, index_none t (fun x hx => h x (by simp [hx]))]
    rfl
theorem index_at : ∀ (l r : List UInt8), (∀ c ∈ l, isDig c) → Lib.indexAny (l ++ 47 :: r) [47, 46] = l.length
  | [], r, _ => rfl
  | c :: t, r, h => by
    have hc := h c (by simp)
    unfold isDig at hc
    have h1 : ([47, 46] : List UInt8).contains c = false := by
      rw [← Bool.not_eq_true, List.contains_iff_mem]
      intro hm
      simp at hm
      rcases hm with rfl | rfl
      · exact absurd hc.1 (by decide)
      · exact absurd hc.1 (by decide)
    have h2 := index_at t r (fun x hx => h x (by simp [hx]))
    rw [List.cons_append, Lib.indexAny, h1, h2, if_neg (by decide), if_neg (by rw [beq_iff_eq]; omega), List.length_cons]
    rfl

theorem dec_all (n : Nat) : (decDigits n).all digB = true := List.all_eq_true.2 fun c hc => decide_eq_true (dec_dig n c hc)
theorem digOut_dec (n : Nat) : digOut (decDigits n) = .tuple #[.string ⟨(decDigits n).toArray⟩, .bool true] := by
  unfold digOut
  rw [if_pos ⟨by obtain ⟨c, r, e, _⟩ := dec_first n; rw [e]; simp, dec_all n⟩, dval_dec]
theorem rat_no_dash {N : Nat} {t : List UInt8} : Lib.hasPrefix (decDigits N ++ t) [45] = false := by
  obtain ⟨c, r, e, hc, _⟩ := dec_first N
  rw [e]
  have : c ≠ 45 := fun h => by subst h; simp at hc
  unfold Lib.hasPrefix
  simp [List.isPrefixOf, Ne.symm this]
theorem trim_no {s p : List UInt8} (h : Lib.hasPrefix s p = false) : Lib.trimPrefix s p = s := by unfold Lib.trimPrefix; rw [h]; rfl

set_option maxRecDepth 100000 in
set_option maxHeartbeats 2000000 in
theorem fParse_whole (N : Nat) (w : World) (hS : Std w) (hl : (decDigits N).length ≤ 400) :
    Calls Tryz.prog 182 #[.string ⟨(decDigits N).toArray⟩] w fun e w' => e = .returned (.tuple #[.agg #[.string ⟨(decDigits N).toArray⟩, .string ⟨#[49]⟩], .int .i64 0]) ∧ Below w.heap.size w w' := by
  have hp : Lib.hasPrefix (decDigits N) [45] = false := by have := rat_no_dash (N := N) (t := []); rw [List.append_nil] at this; exact this
  have HC := Lib.hid (fun W => cutPrefix_any (decDigits N) [45] W)
  rw [hp, trim_no hp] at HC
  have HI := Lib.hid (fun W => indexAny_ascii (decDigits N) [47, 46] W (by omega) (by decide) (fun x hx => by have := dec_dig N x hx; unfold isDig at this; omega) (by decide))
  rw [index_none _ (dec_dig N)] at HI
  have HD := Lib.hid (fun W => digits_any (decDigits N) W (by omega))
  rw [digOut_dec] at HD
  have e1 : itoa 1 = [49] := by rw [show (1 : Int) = ((1 : Nat) : Int) from rfl, itoa_nat, dec_small (by omega)]; rfl
  have HL := Lib.hid (fun W hW => lowest_one (N : Int) 1 W hW (by rw [itoa_nat]; omega) (by rw [e1]; decide) (by omega) (by simp))
  rw [itoa_nat, e1] at HL
  clear e1
  have HS := Lib.hid hS
  have hli : ((decDigits N).length : Int) ≤ 400 := by omega
  clear hS hp hl
  generalize decDigits N = la at *
  go_enter Tryz.func182, Tryz.ntmps182
  go_wp2_with fail
  refine (HC.out _).mono ?_
  rintro e w1 ⟨rfl, hb1⟩
  rw [World.size_alloc] at hb1
  go_wp2_with fail
  refine (HI.out _).mono ?_
  rintro e w2 ⟨rfl, hb2⟩
  replace hb1 := hb1.trans (hb2.mono (by have := hb1.size; simp at this; omega))
  clear hb2
  go_wp2_with fail
  refine (HD.out _).mono ?_
  rintro e w3 ⟨rfl, hb2⟩
  replace hb1 := hb1.trans (hb2.mono (by have := hb1.size; simp at this; omega))
  clear hb2
  go_wp2_with fail
  have hs3 := HS.out.below (below_result hb1) (Nat.le_refl _)
  refine (HL.out _ hs3).mono ?_
  rintro e w4 ⟨rfl, hb3⟩
  replace hb1 := hb1.trans (hb3.mono (by have := hb1.size; simp at this; omega))
  clear hb3 hs3
  obtain ⟨q0, q1, q2, q3, q4⟩ := two_below hb1
  have hbw2 := below_result hb1
  go_wp2_with fail
  refine bodyPost_ret (v := .tuple #[.agg #[.string ⟨la.toArray⟩, .string ⟨#[49]⟩], .int .i64 0]) (by simp [results, Tryz.results182, go_sem, q0, q1]) rfl ⟨rfl, ?_⟩
  exact (hbw2.setCell (Nat.le_refl _) _).setCell (Nat.le_refl _) _

set_option maxRecDepth 100000 in
set_option maxHeartbeats 2000000 in
theorem fParse_slash (N D : Nat) (w : World) (hS : Std w) (hl : (decDigits N).length + (decDigits D).length < 400) (hd : 0 < D) (hg : Nat.gcd N D = 1) :
    Calls Tryz.prog 182 #[.string ⟨(decDigits N ++ 47 :: decDigits D).toArray⟩] w fun e w' => e = .returned (.tuple #[.agg #[.string ⟨(decDigits N).toArray⟩, .string ⟨(decDigits D).toArray⟩], .int .i64 0]) ∧ Below w.heap.size w w' := by
  have hp : Lib.hasPrefix (decDigits N ++ 47 :: decDigits D) [45] = false := rat_no_dash
  have HC := Lib.hid (fun W => cutPrefix_any (decDigits N ++ 47 :: decDigits D) [45] W)
  rw [hp, trim_no hp] at HC
  have HI := Lib.hid (fun W => indexAny_ascii (decDigits N ++ 47 :: decDigits D) [47, 46] W (by simp; omega) (by decide) (fun x hx => by
    rcases List.mem_append.1 hx with h | h
    · have := dec_dig N x h; unfold isDig at this; omega
    · rcases List.mem_cons.1 h with rfl | h
      · decide
      · have := dec_dig D x h; unfold isDig at this; omega) (by decide))
  rw [index_at _ _ (dec_dig N)] at HI
  have HD1 := Lib.hid (fun W => digits_any (decDigits N) W (by omega))
  rw [digOut_dec] at HD1
  have HD2 := Lib.hid (fun W => digits_any (decDigits D) W (by omega))
  rw [digOut_dec] at HD2
  have HL := Lib.hid (fun W hW => lowest_one (N : Int) (D : Int) W hW (by rw [itoa_nat]; omega) (by rw [itoa_nat]; omega) (by omega) (by simpa using hg))
  rw [itoa_nat, itoa_nat] at HL
  have hz := dec_eq_zero D
  rw [decide_eq_false (by omega)] at hz
  have HS := Lib.hid hS
  clear hS hp hg hd
  generalize decDigits N = la at *
  generalize decDigits D = lb at *
  have hx1 : ∀ h, (⟨(la ++ 47 :: lb).toArray⟩ : ByteArray)[la.length]'h = 47 := by
    intro h
    rw [ba_at]
    simp
  have hx2 : (⟨(la ++ 47 :: lb).toArray⟩ : ByteArray).extract 0 la.length = ⟨la.toArray⟩ := ba_ext (by rw [ext_eq]; simp)
  have hx3 : (⟨(la ++ 47 :: lb).toArray⟩ : ByteArray).extract (la.length + 1) (la ++ 47 :: lb).length = ⟨lb.toArray⟩ := ba_ext (by rw [ext_eq, mk_toList, mk_toList, List.take_of_length_le (Nat.le_refl _), show la ++ 47 :: lb = (la ++ [47]) ++ lb by simp, List.drop_left' (by simp)])
  have hsl : (la ++ 47 :: lb).length = la.length + 1 + lb.length := by simp; omega
  generalize la ++ 47 :: lb = s at *
  have hli : (s.length : Int) ≤ 400 := by omega
  have hle : la.length + 1 ≤ s.length := by omega
  clear hsl hl
  go_enter Tryz.func182, Tryz.ntmps182
  go_wp2_with fail
  refine (HC.out _).mono ?_
  rintro e w1 ⟨rfl, hb1⟩
  rw [World.size_alloc] at hb1
  go_wp2_with fail
  refine (HI.out _).mono ?_
  rintro e w2 ⟨rfl, hb2⟩
  replace hb1 := hb1.trans (hb2.mono (by have := hb1.size; simp at this; omega))
  clear hb2
  go_wp2_with fail
  refine (HD1.out _).mono ?_
  rintro e w3 ⟨rfl, hb2⟩
  replace hb1 := hb1.trans (hb2.mono (by have := hb1.size; simp at this; omega))
  clear hb2
  go_wp2_with fail
  refine (HD2.out _).mono ?_
  rintro e w3 ⟨rfl, hb2⟩
  replace hb1 := hb1.trans (hb2.mono (by have := hb1.size; simp at this; omega))
  clear hb2
  go_wp2_with fail
  have hs3 := HS.out.below (below_result hb1) (Nat.le_refl _)
  refine (HL.out _ hs3).mono ?_
  rintro e w4 ⟨rfl, hb3⟩
  replace hb1 := hb1.trans (hb3.mono (by have := hb1.size; simp at this; omega))
  clear hb3 hs3
  obtain ⟨q0, q1, q2, q3, q4⟩ := two_below hb1
  have hbw2 := below_result hb1
  go_wp2_with fail
  refine bodyPost_ret (v := .tuple #[.agg #[.string ⟨la.toArray⟩, .string ⟨lb.toArray⟩], .int .i64 0]) (by simp [results, Tryz.results182, go_sem, q0, q1]) rfl ⟨rfl, ?_⟩
  exact (hbw2.setCell (Nat.le_refl _) _).setCell (Nat.le_refl _) _

end Go.Proofs.YtjgpjhaeoiddbaaGreatDoor
