/- fraction.digits and fraction.lowest. -/
import Derived.Test.YtaiglcbgllnciaaGreatDoorSayNu
import Derived.Test.YtaiglcbgllnciaaGreatDoorGCNu
import Derived.Test.YtaiglcbgllnciaaGreatDoorGFNu
import Derived.Test.YtaiglcbgllnciaaGreatDoorGENu
namespace Go.Proofs.YtaiglcbgllnciaaGreatDoor
open Go.RowKit Go.Lib

set_option maxRecDepth 100000 in
set_option maxHeartbeats 1000000 in
theorem lowest_one (n d : Int) (w : World) (hS : Std w) (hn : (itoa n).length ≤ 50000) (hd : (itoa d).length ≤ 50000) (hd0 : 0 < d) (hg : Nat.gcd n.natAbs d.natAbs = 1) :
    Calls Tryz.prog 136 #[.string ⟨(itoa n).toArray⟩, .string ⟨(itoa d).toArray⟩] w fun e w' => e = .returned (.agg #[.string ⟨(itoa n).toArray⟩, .string ⟨(itoa d).toArray⟩]) ∧ Below w.heap.size w w' := by
  have hsg : sgn d = 1 := by unfold sgn; rw [if_neg (by omega), if_neg (by omega)]
  have HSG := Lib.hid (fun W => whSign_any d W (by omega))
  rw [hsg] at HSG
  have HG := Lib.hid (fun W hW => whGcd_any n d W hW (by omega) (by omega))
  rw [hg, dec_small (by omega)] at HG
  have HS := Lib.hid hS
  clear hsg hg hS hn hd hd0
  generalize itoa n = a at *
  generalize itoa d = b at *
  go_enter Tryz.func136, Tryz.ntmps136
  go_wp2_with fail
  refine (HSG.out _).mono ?_
  rintro e w1 ⟨rfl, rfl⟩
  go_wp2_with fail
  have hs2 := HS.out.alloc (.cells #[.string ⟨#[]⟩, .string ⟨#[]⟩] 63)
  refine (HG.out _ hs2).mono ?_
  rintro e w2 ⟨rfl, hb2⟩
  rw [World.size_alloc] at hb2
  obtain ⟨q0, q1, q2, q3, q4⟩ := two_below hb2
  have hbw2 := below_result hb2
  go_wp2_with fail
  refine bodyPost_ret (v := .agg #[.string ⟨a.toArray⟩, .string ⟨b.toArray⟩]) (by simp [results, Tryz.results136, go_sem, q0, q1]) rfl ⟨rfl, ?_⟩
  exact (hbw2.setCell (Nat.le_refl _) _).setCell (Nat.le_refl _) _

set_option maxRecDepth 100000 in
set_option maxHeartbeats 1000000 in
theorem lowest_more (n d : Int) (w : World) (hS : Std w) (hn : (itoa n).length ≤ 50000) (hd : (itoa d).length ≤ 50000) (hd0 : 0 < d) (hg : Nat.gcd n.natAbs d.natAbs ≠ 1) :
    Calls Tryz.prog 136 #[.string ⟨(itoa n).toArray⟩, .string ⟨(itoa d).toArray⟩] w fun e w' => e = .returned (.agg #[.string ⟨(itoa (n / (Nat.gcd n.natAbs d.natAbs : Nat))).toArray⟩, .string ⟨(itoa (d / (Nat.gcd n.natAbs d.natAbs : Nat))).toArray⟩]) ∧ Below w.heap.size w w' := by
  have hsg : sgn d = 1 := by unfold sgn; rw [if_neg (by omega), if_neg (by omega)]
  have HSG := Lib.hid (fun W => whSign_any d W (by omega))
  rw [hsg] at HSG
  have HG := Lib.hid (fun W hW => whGcd_any n d W hW (by omega) (by omega))
  have hg1 := dec_eq_one (Nat.gcd n.natAbs d.natAbs)
  rw [decide_eq_false hg] at hg1
  have hg2 : (decDigits (Nat.gcd n.natAbs d.natAbs) != [49]) = true := by simp only [bne, hg1]; rfl
  have hgp : 0 < Nat.gcd n.natAbs d.natAbs := Nat.gcd_pos_of_pos_right _ (by omega)
  have hgl : (decDigits (Nat.gcd n.natAbs d.natAbs)).length ≤ 50000 := by
    have h1 := dec_le_len (Nat.le_of_dvd (show 0 < d.natAbs by omega) (Nat.gcd_dvd_right n.natAbs d.natAbs))
    have h2 : decDigits d.natAbs = itoa d := by rw [← itoa_nat]; congr 1; omega
    rw [h2] at h1
    omega
  have HQ1 := Lib.hid (fun W hW => whDivMod_any n (Nat.gcd n.natAbs d.natAbs) W hW hn hgl hgp)
  have HQ2 := Lib.hid (fun W hW => whDivMod_any d (Nat.gcd n.natAbs d.natAbs) W hW hd hgl hgp)
  have HS := Lib.hid hS
  clear hsg hg hS hn hd hd0 hgl hgp
  generalize itoa (n / (Nat.gcd n.natAbs d.natAbs : Nat)) = qa at *
  generalize itoa (d / (Nat.gcd n.natAbs d.natAbs : Nat)) = qb at *
  generalize itoa (n % (Nat.gcd n.natAbs d.natAbs : Nat)) = ra at *
  generalize itoa (d % (Nat.gcd n.natAbs d.natAbs : Nat)) = rb at *
  generalize decDigits (Nat.gcd n.natAbs d.natAbs) = lg at *
  generalize itoa n = a at *
  generalize itoa d = b at *
  go_enter Tryz.func136, Tryz.ntmps136
  go_wp2_with fail
  refine (HSG.out _).mono ?_
  rintro e w1 ⟨rfl, rfl⟩
  go_wp2_with fail
  have hs2 := HS.out.alloc (.cells #[.string ⟨#[]⟩, .string ⟨#[]⟩] 63)
  refine (HG.out _ hs2).mono ?_
  rintro e w2 ⟨rfl, hb2⟩
  rw [World.size_alloc] at hb2
  go_wp2_with fail
  have hs3 := HS.out.below (below_result hb2) (Nat.le_refl _)
  refine (HQ1.out _ hs3).mono ?_
  rintro e w3 ⟨rfl, hb3⟩
  replace hb2 := hb2.trans (hb3.mono (by have := hb2.size; simp at this; omega))
  clear hb3 hs3
  go_wp2_with fail
  have hs3 := HS.out.below (below_result hb2) (Nat.le_refl _)
  refine (HQ2.out _ hs3).mono ?_
  rintro e w4 ⟨rfl, hb3⟩
  replace hb2 := hb2.trans (hb3.mono (by have := hb2.size; simp at this; omega))
  clear hb3 hs3
  obtain ⟨q0, q1, q2, q3, q4⟩ := two_below hb2
  have hbw2 := below_result hb2
  go_wp2_with fail
  refine bodyPost_ret (v := .agg #[.string ⟨qa.toArray⟩, .string ⟨qb.toArray⟩]) (by simp [results, Tryz.results136, go_sem, q0, q1]) rfl ⟨rfl, ?_⟩
  exact (hbw2.setCell (Nat.le_refl _) _).setCell (Nat.le_refl _) _

end Go.Proofs.YtaiglcbgllnciaaGreatDoor
