/- The plain law of ScoreSlices. The plain law of ScoreCovers. -/
import Derived.Test.YtphlodmdcmcjnaaGreatDoorGXFCv
import Derived.Test.YtphlodmdcmcjnaaGreatDoorGXOCv
import Derived.Test.YtphlodmdcmcjnaaGreatDoorGTACv
namespace Go.Proofs.YtphlodmdcmcjnaaGreatDoor
open Go.RowKit Go.Lib

theorem sli_voice {s : Sc} {dss : List (List Nat)} (h : ShortV s.voices dss) : ∀ k (hk : k < s.voices.length), ∃ ds, dss[k]? = some ds ∧ TimesOf (s.voices[k]'hk).evs ds ∧ ds.sum ≤ 1000000 ∧ (s.voices[k]'hk).evs.length ≤ 1000 ∧ (strt ds).length = (s.voices[k]'hk).evs.length + 1 ∧ insTo (dss.map strt) (k + 1) = insAll (insTo (dss.map strt) k) (strt ds) ∧ ∀ x ∈ strt ds, x ≤ 1000000 := by
  intro k hk
  obtain ⟨ds, hds, ht⟩ := h.tv.at_ hk
  have hm := List.mem_of_getElem? hds
  refine ⟨ds, hds, ht, h.sum ds hm, h.evs _ (List.getElem_mem hk), by rw [strt_len, ht.len], ?_, fun x hx => Nat.le_trans (strt_le hx) (h.sum ds hm)⟩
  have hk2 : k < (dss.map strt).length := by rw [List.length_map, ← h.tv.len]; exact hk
  rw [insTo_next hk2, List.getElem_map]
  congr 2
  obtain ⟨h1, h2⟩ := List.getElem?_eq_some_iff.1 hds
  exact h2
theorem sli_len {s : Sc} {dss : List (List Nat)} (h : ShortV s.voices dss) : ∀ k, k ≤ s.voices.length → (insTo (dss.map strt) k).length ≤ k * 1001 := by
  intro k
  induction k with
  | zero => intro _; simp [insTo, insAll]
  | succ k ih =>
    intro hk
    obtain ⟨ds, _, _, _, h4, h5, h6, _⟩ := sli_voice h k hk
    have h1 := ih (by omega)
    have h2 := insTo_len_le (l := insTo (dss.map strt) k) (ts := strt ds)
    rw [h6]
    omega
end Go.Proofs.YtphlodmdcmcjnaaGreatDoor

namespace Go.Proofs.YtphlodmdcmcjnaaGreatDoor
open Go.RowKit Go.Lib

/-- A world behind the store of a fraction. -/
theorem sr2_below {w W : World} {s g : Nat} {a b : Value} (hg : s ≤ g) (h : Below s w W) : Below s w ((W.setCell ⟨g, 0, Option.none⟩ a).setCell ⟨g, 1, Option.none⟩ b) := (h.setCell (p := ⟨g, 0, Option.none⟩) hg a).setCell (p := ⟨g, 1, Option.none⟩) hg b
theorem sr2_same {W : World} {g : Nat} {T : TypeId} {x y a b : Value} (h : Cells W g T [x, y]) : Cells ((W.setCell ⟨g, 0, Option.none⟩ a).setCell ⟨g, 1, Option.none⟩ b) g T [a, b] := (h.set 0 a).set 1 b
theorem fold_max_ge : ∀ (dss : List (List Nat)) (m : Nat), m ≤ dss.foldl (fun m ds => max m ds.sum) m ∧ ∀ ds ∈ dss, ds.sum ≤ dss.foldl (fun m ds => max m ds.sum) m
  | [], m => ⟨Nat.le_refl _, by simp⟩
  | d :: r, m => by
    have h := fold_max_ge r (max m d.sum)
    refine ⟨Nat.le_trans (Nat.le_max_left _ _) h.1, fun ds hds => ?_⟩
    rcases List.mem_cons.1 hds with rfl | hds
    · exact Nat.le_trans (Nat.le_max_right _ _) h.1
    · exact h.2 ds hds
theorem fold_max_mem : ∀ (dss : List (List Nat)) (m : Nat), dss.foldl (fun m ds => max m ds.sum) m = m ∨ ∃ ds ∈ dss, dss.foldl (fun m ds => max m ds.sum) m = ds.sum
  | [], m => .inl rfl
  | d :: r, m => by
    rw [List.foldl_cons]
    rcases fold_max_mem r (max m d.sum) with h | ⟨ds, h1, h2⟩
    · rw [h]
      rcases Nat.le_total m d.sum with h3 | h3
      · exact .inr ⟨d, by simp, by omega⟩
      · exact .inl (by omega)
    · exact .inr ⟨ds, by simp [h1], h2⟩
theorem strt_sum (ds : List Nat) : ds.sum ∈ strt ds := by
  have := strt_last (ds := ds) (k := ds.length) (Nat.le_refl _)
  rw [List.take_length] at this
  exact List.mem_of_getElem? this
theorem pts_end (dss : List (List Nat)) : endOf dss ∈ ptsN dss ∧ ∀ x ∈ ptsN dss, x ≤ endOf dss := by
  constructor
  · rw [ptsN_mem]
    rcases fold_max_mem dss 0 with h | ⟨ds, h1, h2⟩
    · exact .inl h
    · exact .inr ⟨ds, h1, by unfold endOf; rw [h2]; exact strt_sum ds⟩
  · intro x hx
    rcases ptsN_mem.1 hx with rfl | ⟨ds, h1, h2⟩
    · exact Nat.zero_le _
    · exact Nat.le_trans (strt_le h2) ((fold_max_ge dss 0).2 ds h1)
theorem pts_first (dss : List (List Nat)) : (ptsN dss)[0]? = some 0 := by
  obtain ⟨j, hj, e⟩ := List.getElem_of_mem (ptsN_mem.2 (.inl rfl) : 0 ∈ ptsN dss)
  rcases Nat.eq_zero_or_pos j with rfl | hp
  · rw [List.getElem?_eq_getElem hj, e]
  · have := List.pairwise_iff_getElem.1 (ptsN_sorted dss) 0 j (by omega) hj hp
    omega
theorem pts_last (dss : List (List Nat)) : (ptsN dss)[(ptsN dss).length - 1]? = some (endOf dss) := by
  obtain ⟨h1, h2⟩ := pts_end dss
  obtain ⟨j, hj, e⟩ := List.getElem_of_mem h1
  have hl : (ptsN dss).length - 1 < (ptsN dss).length := by omega
  by_cases hjl : j = (ptsN dss).length - 1
  · rw [← hjl, List.getElem?_eq_getElem hj, e]
  · have h3 := List.pairwise_iff_getElem.1 (ptsN_sorted dss) j _ hj hl (by omega)
    have h4 := h2 _ (List.getElem_mem hl)
    omega
theorem pts_gap {dss : List (List Nat)} {i x : Nat} (hi : i + 1 < (ptsN dss).length) (hx : x ∈ ptsN dss) : x ≤ (ptsN dss)[i]'(by omega) ∨ (ptsN dss)[i + 1]'hi ≤ x := by
  obtain ⟨j, hj, rfl⟩ := List.getElem_of_mem hx
  have h := List.pairwise_iff_getElem.1 (ptsN_sorted dss)
  rcases Nat.lt_trichotomy j i with h1 | rfl | h1
  · exact .inl (Nat.le_of_lt (h j i hj (by omega) h1))
  · exact .inl (Nat.le_refl _)
  · rcases Nat.lt_or_ge (i + 1) j with h2 | h2
    · exact .inr (Nat.le_of_lt (h (i + 1) j hi hj h2))
    · obtain rfl : j = i + 1 := by omega
      exact .inr (Nat.le_refl _)
theorem sndTo_congr {f g f' g' : Nat → Bool} {l : List Nat} (i : Nat) (hf : ∀ x ∈ l, f x = f' x) (hg : ∀ x ∈ l, g x = g' x) : ∀ k, k ≤ l.length - 1 → sndTo f g i l k = sndTo f' g' i l k
  | 0, _ => rfl
  | k + 1, hk => by
    have h1 : k < l.length := by omega
    have h2 : k + 1 < l.length := by omega
    rw [sndTo, sndTo, sndTo_congr i hf hg k (by omega), List.getElem?_eq_getElem h1, List.getElem?_eq_getElem h2, Option.getD_some, Option.getD_some, hf _ (List.getElem_mem h1), hg _ (List.getElem_mem h2)]
theorem snd_congr {f g f' g' : Nat → Bool} {all : List (List Nat)} (hf : ∀ l ∈ all, ∀ x ∈ l, f x = f' x) (hg : ∀ l ∈ all, ∀ x ∈ l, g x = g' x) : snd f g all = snd f' g' all := by
  have key : ∀ k, k ≤ all.length → sndAll f g all k = sndAll f' g' all k := by
    intro k
    induction k with
    | zero => exact fun _ => rfl
    | succ k ih =>
      intro hk
      have hlt : k < all.length := by omega
      have h := List.getElem?_eq_getElem hlt
      rw [sndAll, sndAll, ih (by omega), h, Option.getD_some, sndTo_congr k (hf _ (List.getElem_mem hlt)) (hg _ (List.getElem_mem hlt)) _ (Nat.le_refl _)]
  exact key _ (Nat.le_refl _)
theorem cmpZ_le0 {x y : Int} : cmpZ x y ≤ 0 ↔ x ≤ y := by
  unfold cmpZ
  split
  · simp; omega
  · split
    · simp; omega
    · simp; omega
theorem cmpZ_lt0 {x y : Int} : cmpZ x y < 0 ↔ x < y := by
  unfold cmpZ
  split
  · simp; omega
  · split
    · simp; omega
    · simp; omega
/-- What sounds in the middle between two neighbours. -/
theorem snd_mid {dss : List (List Nat)} {i : Nat} (hi : i + 1 < (ptsN dss).length) :
    snd (fun x => decide (cmpQ (lowN x 12) (lowD x 12) (lowN (((ptsN dss)[i]'(by omega) + (ptsN dss)[i + 1]'hi : Nat) : Int) 24) (lowD (((ptsN dss)[i]'(by omega) + (ptsN dss)[i + 1]'hi : Nat) : Int) 24) ≤ 0)) (fun x => decide (cmpQ (lowN (((ptsN dss)[i]'(by omega) + (ptsN dss)[i + 1]'hi : Nat) : Int) 24) (lowD (((ptsN dss)[i]'(by omega) + (ptsN dss)[i + 1]'hi : Nat) : Int) 24) (lowN x 12) (lowD x 12) < 0)) (dss.map strt) = sndN (dss.map strt) ((ptsN dss)[i]'(by omega)) := by
  have hab := List.pairwise_iff_getElem.1 (ptsN_sorted dss) i (i + 1) (by omega) hi (by omega)
  have hgap := fun x hx => pts_gap (x := x) hi hx
  have hmem : ∀ l ∈ dss.map strt, ∀ x ∈ l, x ∈ ptsN dss := fun l hl x hx => by
    obtain ⟨ds, h1, rfl⟩ := List.mem_map.1 hl
    exact ptsN_mem.2 (.inr ⟨ds, h1, hx⟩)
  generalize (ptsN dss)[i]'(by omega) = a at *
  generalize (ptsN dss)[i + 1]'hi = b at *
  unfold sndN
  refine snd_congr (fun l hl x hx => ?_) (fun l hl x hx => ?_)
  · rw [cmpQ_low (by decide) (by decide)]
    unfold cmpQ
    have h1 := cmpZ_le0 (x := (x : Int) * 24) (y := ((a + b : Nat) : Int) * 12)
    have h2 := hgap x (hmem l hl x hx)
    rw [decide_eq_decide, h1]
    omega
  · rw [cmpQ_low (by decide) (by decide)]
    unfold cmpQ
    have h1 := cmpZ_lt0 (x := ((a + b : Nat) : Int) * 12) (y := (x : Int) * 24)
    have h2 := hgap x (hmem l hl x hx)
    rw [decide_eq_decide, h1]
    omega
/-- All that the law ScoreCovers asks of the slices. -/
theorem cov_fin {s : Sc} {dss : List (List Nat)} (h : ShortV s.voices dss) : (slcN dss).length = (ptsN dss).length - 1 ∧ (slcN dss).length ≤ 1001000 ∧ (ptsN dss)[0]? = some 0 ∧ (ptsN dss)[(slcN dss).length]? = some (endOf dss) ∧ ∀ i, i < (slcN dss).length → ∃ a b x, (ptsN dss)[i]? = some a ∧ (ptsN dss)[i + 1]? = some b ∧ a < b ∧ b ≤ 1000000 ∧ (slcN dss)[i]? = some (a, b, x) ∧ x.length ≤ 10000000 ∧ snd (fun x => decide (cmpQ (lowN x 12) (lowD x 12) (lowN ((a + b : Nat) : Int) 24) (lowD ((a + b : Nat) : Int) 24) ≤ 0)) (fun x => decide (cmpQ (lowN ((a + b : Nat) : Int) 24) (lowD ((a + b : Nat) : Int) 24) (lowN x 12) (lowD x 12) < 0)) (dss.map strt) = x := by
  have hsl : (slcN dss).length = (ptsN dss).length - 1 := slcTo_len _ _ _
  have hlen : (ptsN dss).length ≤ 1001001 := by
    by_cases hd : dss = []
    · subst hd
      decide
    · have h1 := sli_len h s.voices.length (Nat.le_refl _)
      have e0 : s.voices.length = (dss.map strt).length := by rw [List.length_map]; exact h.tv.len
      rw [e0, insTo_pts hd] at h1
      have := h.vcs
      have h2 := Nat.mul_le_mul_right 1001 (show (dss.map strt).length ≤ 1000 by omega)
      omega
  refine ⟨hsl, by omega, pts_first dss, by rw [hsl]; exact pts_last dss, ?_⟩
  intro i hi
  rw [hsl] at hi
  have hi1 : i + 1 < (ptsN dss).length := by omega
  have hi0 : i < (ptsN dss).length := by omega
  refine ⟨(ptsN dss)[i]'hi0, (ptsN dss)[i + 1]'hi1, _, List.getElem?_eq_getElem hi0, List.getElem?_eq_getElem hi1, List.pairwise_iff_getElem.1 (ptsN_sorted dss) i (i + 1) hi0 hi1 (by omega), ?_, ?_, ?_, snd_mid hi1⟩
  · exact pts_le h.sum ((isort_perm _).mem_iff.1 (ddN_mem_iff.1 (List.getElem_mem hi1)))
  · unfold slcN slcTo
    rw [List.getElem?_map, List.getElem?_range hi]
    simp [hi0, hi1]
  · have h1 := sndAll_len (fun x => decide (x ≤ (ptsN dss)[i]'hi0)) (fun x => decide ((ptsN dss)[i]'hi0 < x)) (dss.map strt) 1000 (fun l hl => (all_short h hl).2) (dss.map strt).length (Nat.le_refl _)
    have e0 : s.voices.length = (dss.map strt).length := by rw [List.length_map]; exact h.tv.len
    have hv := h.vcs
    have h2 := Nat.mul_le_mul_right 1000 (show (dss.map strt).length ≤ 1000 by omega)
    unfold sndN snd
    omega
theorem small_len8 {z : Int} (h : z.natAbs ≤ 9999999) : (itoa z).length ≤ 8 := by
  have h1 : (decDigits z.natAbs).length ≤ 7 := by
    rw [dec_length]
    exact nDigits_le (by omega) (by omega)
  have := itoa_len z
  omega
theorem tMid_low (c : Nat) : lowN (lowN (c : Int) 12 * 1) (lowD (c : Int) 12 * 2) = lowN (c : Int) 24 ∧ lowD (lowN (c : Int) 12 * 1) (lowD (c : Int) 12 * 2) = lowD (c : Int) 24 := by
  have h1 := (low_pos (n := (c : Int)) (d := 12) (by decide)).1
  have h2 := low_cross (n := (c : Int)) (d := 12) (by decide)
  refine low_mul_eq (by omega) (by decide) ?_
  generalize lowN (c : Int) 12 = a at *
  generalize lowD (c : Int) 12 = b at *
  rw [show (c : Int) * (b * 2) = ((c : Int) * b) * 2 by rw [Int.mul_assoc], ← h2]
  omega
theorem tMid_any (c : Nat) (w : World) (hS : Std w) (hc : c ≤ 2000000) :
    Calls Tryz.prog 31 #[.agg #[.string ⟨(t12n c).toArray⟩, .string ⟨(t12d c).toArray⟩], .agg #[.string ⟨#[49]⟩, .string ⟨#[50]⟩]] w fun e w' => e = .returned (.agg #[.string ⟨(itoa (lowN (c : Int) 24)).toArray⟩, .string ⟨(itoa (lowD (c : Int) 24)).toArray⟩]) ∧ Below w.heap.size w w' := by
  have h1 : (t12n c).length ≤ 9 ∧ (t12d c).length ≤ 9 := by
    have h1 := (low_bd (n := (c : Int)) (d := 12)).1
    have h2 := (low_bd (n := (c : Int)) (d := 12)).2
    unfold t12n t12d
    exact ⟨Nat.le_trans (small_len8 (z := lowN (c : Int) 12) (by omega)) (by decide), Nat.le_trans (small_len8 (z := lowD (c : Int) 12) (by omega)) (by decide)⟩
  have h := fMul_nums (lowN c 12) (lowD c 12) 1 2 w hS h1.1 h1.2 (by decide +kernel) (by decide +kernel) (low_pos (by decide)).1 (by decide)
  have e1 : itoa 1 = [49] := by kernel_rfl
  have e2 : itoa 2 = [50] := by kernel_rfl
  rw [(tMid_low c).1, (tMid_low c).2, e1, e2] at h
  exact h
theorem tMid_len {c : Nat} (hc : c ≤ 2000000) : (itoa (lowN (c : Int) 24)).length ≤ 400 ∧ (itoa (lowD (c : Int) 24)).length ≤ 400 := by
  have h1 := (low_bd (n := (c : Int)) (d := 24)).1
  have h2 := (low_bd (n := (c : Int)) (d := 24)).2
  exact ⟨Nat.le_trans (small_len8 (z := lowN (c : Int) 24) (by omega)) (by decide), Nat.le_trans (small_len8 (z := lowD (c : Int) 24) (by omega)) (by decide)⟩

end Go.Proofs.YtphlodmdcmcjnaaGreatDoor
