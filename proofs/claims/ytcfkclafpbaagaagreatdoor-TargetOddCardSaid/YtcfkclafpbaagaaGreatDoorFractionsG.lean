/- MonzoFractions: the walk. -/
import Derived.Test.YtcfkclafpbaagaaGreatDoorHeightsG
import Derived.Test.YtcfkclafpbaagaaGreatDoorGYa
import Derived.Test.YtcfkclafpbaagaaGreatDoorLawsG
namespace Go.Proofs.YtcfkclafpbaagaaGreatDoor
open Go.RowKit Go.Lib

theorem pp_cop_left (p : List Int) (f : Nat → Nat) (r : Nat) : ∀ n, (∀ i, i < n → Nat.Coprime ((p[i]?.getD 0).toNat ^ f i) r) → Nat.Coprime (pp p f 0 n) r
  | 0, _ => Nat.coprime_one_left r
  | n + 1, h => by
    rw [pp, Nat.zero_add]
    exact (pp_cop_left p f r n fun i h1 => h i (by omega)).mul_left (h n (by omega))
theorem pp_cop_right (p : List Int) (g : Nat → Nat) (r : Nat) : ∀ n, (∀ i, i < n → Nat.Coprime r ((p[i]?.getD 0).toNat ^ g i)) → Nat.Coprime r (pp p g 0 n)
  | 0, _ => Nat.coprime_one_right r
  | n + 1, h => by
    rw [pp, Nat.zero_add]
    exact (pp_cop_right p g r n fun i h1 => h i (by omega)).mul_right (h n (by omega))
theorem pp_disj {p : List Int} (hp : Primed p) (f g : Nat → Nat) (h : ∀ i, f i = 0 ∨ g i = 0) : Nat.Coprime (pp p f 0 p.length) (pp p g 0 p.length) := by
  refine pp_cop_left p f _ _ fun i hi => pp_cop_right p g _ _ fun j hj => ?_
  rcases h i with h0 | h0
  · rw [h0, Nat.pow_zero]; exact Nat.coprime_one_left _
  · rcases Nat.lt_trichotomy i j with hij | rfl | hij
    · exact ((hp.cop i j hij hj).pow_left _).pow_right _
    · rw [h0, Nat.pow_zero]; exact Nat.coprime_one_right _
    · exact (((hp.cop j i hij hi).symm).pow_left _).pow_right _
theorem num_den_coprime {p x : List Int} (hp : Primed p) (h : x.length = p.length) : Nat.gcd (num p x) (den p x) = 1 := by
  rw [num_pp h, den_pp h]
  exact pp_disj hp _ _ fun i => by unfold upE downE; omega

/-- monzo.Of of the fraction of a right interval. -/
theorem of_sides {pv : Value} {p x : List Int} {w : World} (hS : Std w) (hpv : IsRow w w.heap.size pv p) (hp : primeErr p = 0) (hx : SmallRow p 9 x) :
    Calls Tryz.prog 64 #[pv, .agg #[.string ⟨(decDigits (num p x)).toArray⟩, .string ⟨(decDigits (den p x)).toArray⟩]] w fun e w' => (∃ A c, e = .returned (.tuple #[.slice A x.length c, .int .i64 0]) ∧ IsRow w' w'.heap.size (.slice A x.length c) x) ∧ Below w.heap.size w w' := by
  have hpp := primed hp
  obtain ⟨e1, e2, e3⟩ := of_num_den hpp hx.len
  obtain ⟨l1, l2⟩ := num_len9 hp hx
  refine (of_long pv p (num p x) (den p x) w hS hpv hp (by omega) (by omega) (num_pos hpp hx.len) (den_pos hpp hx.len) (num_den_coprime hpp hx.len) (by rw [e3]; exact hx.chk hp (by omega))).mono fun e w' ⟨ho, hb⟩ => ⟨?_, hb⟩
  rcases ho with ⟨_, _, v, rfl, hr⟩ | ⟨hn, _⟩
  · rw [e3] at hr
    have hr' := hr
    obtain ⟨A, c, rfl, _⟩ := hr'
    exact ⟨A, c, rfl, hr⟩
  · exact absurd ⟨e1, e2⟩ hn

theorem rat_same (a b : List UInt8) (w : World) : (binOp .eql 53 (.agg #[.string ⟨a.toArray⟩, .string ⟨b.toArray⟩]) (.agg #[.string ⟨a.toArray⟩, .string ⟨b.toArray⟩])).run Tryz.prog w = .ok (.bool true) w := by
  have hS : Tryz.prog.underlying 53 = some (.struct (Tryz.prog.fieldsOf 53)) := by kernel_rfl
  have hp : Tryz.prog.stoodInHeld 53 = false := by kernel_rfl
  rw [run_eql_struct, show (10000 : Nat) = 9999 + 1 from rfl, run_equalIn_agg w 9999 53 _ _ hS hp]
  simp only [Program.fieldsOf, Tryz.underlying53]
  have u := Tryz.underlying51
  go_simp

end Go.Proofs.YtcfkclafpbaagaaGreatDoor
