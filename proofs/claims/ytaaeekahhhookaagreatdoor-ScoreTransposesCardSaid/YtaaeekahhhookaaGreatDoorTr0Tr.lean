/- The plain law of ScoreTransposes: a score with all notes higher, and back again. -/
import Derived.Test.YtaaeekahhhookaaGreatDoorGXLTr
import Derived.Test.YtaaeekahhhookaaGreatDoorGXDMTr
import Derived.Test.YtaaeekahhhookaaGreatDoorGGMTr
namespace Go.Proofs.YtaaeekahhhookaaGreatDoor
open Go.RowKit Go.Lib

/-- A note higher by an interval. -/
def upN (y x : List Int) : List Int := sumTo x y 1 x.length
def ngN (y : List Int) : List Int := timesTo y (-1) y.length
/-- The notes, events, voices higher, where all are right. -/
def upNs (p y : List Int) : List (List Int) → Option (List (List Int))
 | [] => some []
 | x :: r => if chkAll p [upN y x] = 0 then (match upNs p y r with | some m => some (upN y x :: m) | none => none) else none
def upEvs (p y : List Int) : List Ev → Option (List Ev)
 | [] => some []
 | x :: r => match upNs p y x.notes with
   | some ns => (match upEvs p y r with | some m => some (⟨x.num, x.den, ns⟩ :: m) | none => none)
   | none => none
def upVcs (p y : List Int) : List Vc → Option (List Vc)
 | [] => some []
 | v :: r => match upEvs p y v.evs with
   | some es => (match upVcs p y r with | some m => some (⟨v.name, es⟩ :: m) | none => none)
   | none => none
section
variable {p y : List Int}
theorem upNs_step {l : List (List Int)} {k : Nat} (hk : k < l.length) : upNs p y (l.drop k) = if chkAll p [upN y (l[k]'hk)] = 0 then (match upNs p y (l.drop (k + 1)) with | some m => some (upN y (l[k]'hk) :: m) | none => none) else none := by
 rw [List.drop_eq_getElem_cons hk, upNs]
theorem upEvs_step {l : List Ev} {k : Nat} (hk : k < l.length) : upEvs p y (l.drop k) = match upNs p y (l[k]'hk).notes with
  | some ns => (match upEvs p y (l.drop (k + 1)) with | some m => some (⟨(l[k]'hk).num, (l[k]'hk).den, ns⟩ :: m) | none => none)
  | none => none := by
 rw [List.drop_eq_getElem_cons hk, upEvs]
theorem upVcs_step {l : List Vc} {k : Nat} (hk : k < l.length) : upVcs p y (l.drop k) = match upEvs p y (l[k]'hk).evs with
  | some es => (match upVcs p y (l.drop (k + 1)) with | some m => some (⟨(l[k]'hk).name, es⟩ :: m) | none => none)
  | none => none := by
 rw [List.drop_eq_getElem_cons hk, upVcs]
theorem upNs_len : ∀ {l m : List (List Int)}, upNs p y l = some m → m.length = l.length
 | [], m, h => by injection h with h; subst h; rfl
 | x :: r, m, h => by
   rw [upNs] at h
   split at h
   ·split at h
    ·rename_i m' hm
     injection h with h
     subst h
     rw [List.length_cons, List.length_cons, upNs_len hm]
    ·cases h
   ·cases h
theorem upEvs_len : ∀ {l m : List Ev}, upEvs p y l = some m → m.length = l.length
 | [], m, h => by injection h with h; subst h; rfl
 | x :: r, m, h => by
   rw [upEvs] at h
   split at h
   ·split at h
    ·rename_i m' hm
     injection h with h
     subst h
     rw [List.length_cons, List.length_cons, upEvs_len hm]
    ·cases h
   ·cases h
theorem upVcs_len : ∀ {l m : List Vc}, upVcs p y l = some m → m.length = l.length
 | [], m, h => by injection h with h; subst h; rfl
 | x :: r, m, h => by
   rw [upVcs] at h
   split at h
   ·split at h
    ·rename_i m' hm
     injection h with h
     subst h
     rw [List.length_cons, List.length_cons, upVcs_len hm]
    ·cases h
   ·cases h

theorem farB_neg (z : Int) : farB (-1 * z) = farB z := by
 unfold farB
 rw [Bool.eq_iff_iff]
 simp only [Bool.or_eq_true, decide_eq_true_eq]
 omega
theorem chk_ng (h : chkAll p [y] = 0) : chkAll p [ngN y] = 0 := by
 unfold chkAll at *
 split at h
 ·rename_i h1; exact absurd h h1
 ·rename_i h1
  rw [if_neg h1, rowsErr] at *
  have hr : rowErr p.length y = 0 := by
   by_cases h2 : rowErr p.length y = 0
   ·exact h2
   ·rw [if_pos h2] at h; exact absurd h h2
  have hn : rowErr p.length (ngN y) = 0 := by
   unfold rowErr at *
   have hl : (ngN y).length = y.length := timesTo_len _ _ _
   rw [hl]
   by_cases h3 : y.length ≠ p.length
   ·rw [if_pos h3] at hr; cases hr
   ·rw [if_neg h3] at hr ⊢
    by_cases h4 : y.any farB = true
    ·rw [if_pos h4] at hr; cases hr
    ·rw [if_neg]
     intro h5
     apply h4
     rw [List.any_eq_true] at h5 ⊢
     obtain ⟨z, hz, hf⟩ := h5
     obtain ⟨j, hj, rfl⟩ := List.getElem_of_mem hz
     rw [hl] at hj
     refine ⟨y[j], List.getElem_mem hj, ?_⟩
     have := timesTo_get y (-1) j y.length hj
     rw [List.getElem?_eq_getElem (by rw [timesTo_len]; exact hj), List.getElem?_eq_getElem hj] at this
     simp only [Option.getD_some] at this
     rw [← farB_neg, ← this]
     exact hf
  rw [hn]
  rfl
theorem chk_len {p x : List Int} (h : chkAll p [x] = 0) : x.length = p.length := by
 unfold chkAll at h
 split at h
 ·rename_i h1; exact absurd h h1
 ·rw [rowsErr] at h
  by_cases h2 : x.length = p.length
  ·exact h2
  ·have h3 : rowErr p.length x = 5 := by unfold rowErr; rw [if_pos h2]
   rw [h3, if_pos (by decide)] at h
   cases h
theorem up_back {x : List Int} (hl : x.length = y.length) : upN (ngN y) (upN y x) = x := by
 have h1 : (upN y x).length = x.length := sumTo_len _ _ _ _
 refine row_ext (by unfold upN; rw [sumTo_len, sumTo_len]) fun j hj => ?_
 have hj2 : j < x.length := by
  unfold upN at hj
  rw [sumTo_len, sumTo_len] at hj
  exact hj
 rw [show upN (ngN y) (upN y x) = sumTo (upN y x) (ngN y) 1 (upN y x).length from rfl, h1, sumTo_get _ _ _ j _ hj2]
 rw [show upN y x = sumTo x y 1 x.length from rfl, sumTo_get _ _ _ j _ hj2, show ngN y = timesTo y (-1) y.length from rfl, timesTo_get y (-1) j _ (by omega)]
 omega
/-- Back again. -/
theorem upNs_back : ∀ {l m : List (List Int)}, (∀ x ∈ l, chkAll p [x] = 0) → (∀ x ∈ l, x.length = y.length) → upNs p y l = some m → upNs p (ngN y) m = some l
 | [], m, _, _, h => by injection h with h; subst h; rfl
 | x :: r, m, h1, h2, h => by
   rw [upNs] at h
   split at h
   ·split at h
    ·rename_i m' hm
     injection h with h
     subst h
     rw [upNs, up_back (h2 x (by simp)), if_pos (h1 x (by simp)), upNs_back (fun z hz => h1 z (by simp [hz])) (fun z hz => h2 z (by simp [hz])) hm]
    ·cases h
   ·cases h
theorem upEvs_back : ∀ {l m : List Ev}, (∀ e ∈ l, ∀ x ∈ e.notes, chkAll p [x] = 0) → (∀ e ∈ l, ∀ x ∈ e.notes, x.length = y.length) → upEvs p y l = some m → upEvs p (ngN y) m = some l
 | [], m, _, _, h => by injection h with h; subst h; rfl
 | x :: r, m, h1, h2, h => by
   rw [upEvs] at h
   split at h
   ·rename_i ns hns
    split at h
    ·rename_i m' hm
     injection h with h
     subst h
     rw [upEvs]
     dsimp only
     rw [upNs_back (h1 x (by simp)) (h2 x (by simp)) hns]
     dsimp only
     rw [upEvs_back (fun z hz => h1 z (by simp [hz])) (fun z hz => h2 z (by simp [hz])) hm]
    ·cases h
   ·cases h
theorem upVcs_back : ∀ {l m : List Vc}, (∀ v ∈ l, ∀ e ∈ v.evs, ∀ x ∈ e.notes, chkAll p [x] = 0) → (∀ v ∈ l, ∀ e ∈ v.evs, ∀ x ∈ e.notes, x.length = y.length) → upVcs p y l = some m → upVcs p (ngN y) m = some l
 | [], m, _, _, h => by injection h with h; subst h; rfl
 | x :: r, m, h1, h2, h => by
   rw [upVcs] at h
   split at h
   ·rename_i ns hns
    split at h
    ·rename_i m' hm
     injection h with h
     subst h
     rw [upVcs]
     dsimp only
     rw [upEvs_back (h1 x (by simp)) (h2 x (by simp)) hns]
     dsimp only
     rw [upVcs_back (fun z hz => h1 z (by simp [hz])) (fun z hz => h2 z (by simp [hz])) hm]
    ·cases h
   ·cases h
/-- What is higher is right. -/
theorem upNs_right : ∀ {l m : List (List Int)}, upNs p y l = some m → ∀ x ∈ m, chkAll p [x] = 0
 | [], m, h => by injection h with h; subst h; exact fun _ h => by cases h
 | x :: r, m, h => by
   rw [upNs] at h
   split at h
   ·rename_i hc
    split at h
    ·rename_i m' hm
     injection h with h
     subst h
     intro z hz
     rcases List.mem_cons.1 hz with rfl | hz
     ·exact hc
     ·exact upNs_right hm z hz
    ·cases h
   ·cases h
theorem upEvs_right (hp : primeErr p = 0) : ∀ {l m : List Ev}, upEvs p y l = some m → evsErr p l = 0 → evsErr p m = 0
 | [], m, h, _ => by injection h with h; subst h; rfl
 | x :: r, m, h, h0 => by
   rw [upEvs] at h
   split at h
   ·rename_i ns hns
    split at h
    ·rename_i m' hm
     injection h with h
     subst h
     have hx : evErr p x = 0 := evsErr_mem h0 x (by simp)
     rw [evsErr, hx] at h0
     simp only [ne_eq, not_true_eq_false, if_false] at h0
     have hx2 : evErr p ⟨x.num, x.den, ns⟩ = 0 := by
      unfold evErr at hx ⊢
      dsimp only
      split at hx
      ·rename_i h1
       rw [if_pos h1]
       split at hx
       ·rename_i h2
        rw [if_pos h2, upNs_len hns]
        split at hx
        ·cases hx
        ·rename_i h3
         rw [if_neg h3]
         exact chkAll_all hp (upNs_right hns)
       ·cases hx
      ·cases hx
     rw [evsErr, hx2]
     simp only [ne_eq, not_true_eq_false, if_false]
     exact upEvs_right hp hm h0
    ·cases h
   ·cases h
theorem upVcs_right (hp : primeErr p = 0) : ∀ {l m : List Vc} (k k' : List Vc), k.map (·.name) = k'.map (·.name) → upVcs p y l = some m → vcsErr p k l = 0 → vcsErr p k' m = 0
 | [], m, k, k', _, h, _ => by injection h with h; subst h; rfl
 | v :: r, m, k, k', hk, h, h0 => by
   rw [upVcs] at h
   split at h
   ·rename_i es hes
    split at h
    ·rename_i m' hm
     injection h with h
     subst h
     rw [vcsErr] at h0
     by_cases hv : vcErr p k v = 0
     ·rw [hv] at h0
      simp only [ne_eq, not_true_eq_false, if_false] at h0
      have hv2 : vcErr p k' ⟨v.name, es⟩ = 0 := by
       unfold vcErr at hv ⊢
       dsimp only
       have ha : (k'.any fun w => w.name == v.name) = (k.any fun w => w.name == v.name) := by
        have e1 : ∀ l : List Vc, (l.any fun w => w.name == v.name) = (l.map (·.name)).any (· == v.name) := fun l => by rw [List.any_map]; rfl
        rw [e1, e1, hk]
       rw [ha, upEvs_len hes]
       split at hv
       ·rename_i h1
        rw [if_pos h1]
        split at hv
        ·cases hv
        ·rename_i h2
         rw [if_neg h2]
         split at hv
         ·cases hv
         ·rename_i h3
          rw [if_neg h3]
          exact upEvs_right hp hes hv
       ·cases hv
      rw [vcsErr, hv2]
      simp only [ne_eq, not_true_eq_false, if_false]
      exact upVcs_right hp (k ++ [v]) (k' ++ [⟨v.name, es⟩]) (by rw [List.map_append, List.map_append, hk]; rfl) hm h0
     ·rw [if_pos hv] at h0
      exact absurd h0 hv
    ·cases h
   ·cases h
end
section
variable {p y : List Int}
theorem upNs_ok {l d : List (List Int)} {k : Nat} (hk : k < l.length) (h : chkAll p [upN y (l[k]'hk)] = 0) : (upNs p y (l.drop k)).map (d ++ ·) = (upNs p y (l.drop (k + 1))).map ((d ++ [upN y (l[k]'hk)]) ++ ·) := by
 rw [upNs_step hk, if_pos h]
 cases upNs p y (l.drop (k + 1)) with
 | none => rfl
 | some m => simp
theorem upNs_bad {l : List (List Int)} {k : Nat} (hk : k < l.length) (h : chkAll p [upN y (l[k]'hk)] ≠ 0) : upNs p y (l.drop k) = none := by
 rw [upNs_step hk, if_neg h]
theorem upEvs_ok {l d : List Ev} {k : Nat} {ns : List (List Int)} (hk : k < l.length) (h : upNs p y (l[k]'hk).notes = some ns) : (upEvs p y (l.drop k)).map (d ++ ·) = (upEvs p y (l.drop (k + 1))).map ((d ++ [⟨(l[k]'hk).num, (l[k]'hk).den, ns⟩]) ++ ·) := by
 rw [upEvs_step hk, h]
 dsimp only
 cases upEvs p y (l.drop (k + 1)) with
 | none => rfl
 | some m => simp
theorem upEvs_bad {l : List Ev} {k : Nat} (hk : k < l.length) (h : upNs p y (l[k]'hk).notes = none) : upEvs p y (l.drop k) = none := by
 rw [upEvs_step hk, h]
theorem upVcs_ok {l d : List Vc} {k : Nat} {es : List Ev} (hk : k < l.length) (h : upEvs p y (l[k]'hk).evs = some es) : (upVcs p y (l.drop k)).map (d ++ ·) = (upVcs p y (l.drop (k + 1))).map ((d ++ [⟨(l[k]'hk).name, es⟩]) ++ ·) := by
 rw [upVcs_step hk, h]
 dsimp only
 cases upVcs p y (l.drop (k + 1)) with
 | none => rfl
 | some m => simp
theorem upVcs_bad {l : List Vc} {k : Nat} (hk : k < l.length) (h : upEvs p y (l[k]'hk).evs = none) : upVcs p y (l.drop k) = none := by
 rw [upVcs_step hk, h]
theorem map_start {α : Type} (o : Option (List α)) : o = o.map ([] ++ ·) := by cases o <;> simp
theorem map_end {α : Type} (d : List α) : (some ([] : List α)).map (d ++ ·) = some d := by simp
end
/-- A score with its notes higher, if they are right. -/
def upSc (y : List Int) (s : Sc) : Option Sc := match upVcs s.primes y s.voices with | some m => some ⟨s.primes, m⟩ | none => none
theorem upSc_right {y : List Int} {s u : Sc} (h : upSc y s = some u) (h0 : scErr s = 0) : scErr u = 0 := by
 unfold upSc at h
 split at h
 ·rename_i m hm
  injection h with h
  subst h
  have hp := (ScOk.of h0).prm
  unfold scErr at h0 ⊢
  dsimp only
  rw [hp] at h0 ⊢
  simp only [ne_eq, not_true_eq_false, if_false] at h0 ⊢
  rw [upVcs_len hm]
  split at h0
  ·cases h0
  ·rename_i h1
   rw [if_neg h1]
   exact upVcs_right hp [] [] rfl hm h0
 ·cases h
theorem upSc_back {y : List Int} {s u : Sc} (h : upSc y s = some u) (h0 : scErr s = 0) (hy : chkAll s.primes [y] = 0) : upSc (ngN y) u = some s := by
 have ho := ScOk.of h0
 unfold upSc at h
 split at h
 ·rename_i m hm
  injection h with h
  subst h
  have hc : ∀ v ∈ s.voices, ∀ e ∈ v.evs, ∀ x ∈ e.notes, chkAll s.primes [x] = 0 := fun v hv e he x hx => (ho.ev v hv e he).2.2 x hx
  unfold upSc
  dsimp only
  rw [upVcs_back hc (fun v hv e he x hx => by rw [chk_len (hc v hv e he x hx), chk_len hy]) hm]
 ·cases h
theorem upSc_sm {y : List Int} {s u : Sc} (h : upSc y s = some u) (h0 : scErr s = 0) : ScOk u := ScOk.of (upSc_right h h0)

end Go.Proofs.YtaaeekahhhookaaGreatDoor
