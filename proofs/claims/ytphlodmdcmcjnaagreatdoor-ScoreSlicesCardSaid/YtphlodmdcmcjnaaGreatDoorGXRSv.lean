/- Times behind times, in a region that draws its order. The plain law of ScoreSlices. -/
import Derived.Test.YtphlodmdcmcjnaaGreatDoorGXFSv
import Derived.Deep.AppendLies
import Derived.Test.YtphlodmdcmcjnaaGreatDoorGXOSv
namespace Go.Proofs.YtphlodmdcmcjnaaGreatDoor
open Go.RowKit Go.Lib

theorem step_append_T {ops : Array Oper} {o : Oper} {a : Act} {w : World} {K : Act → World → Prop} {Q : Exit → Act → World → Prop} {E : Prop} (hgd : o.guard = none) (s x : Operand)
    (ho : o.op = .call { callee := .builtin .append, args := #[s, x], argTypes := #[48, 48] })
    (base : Nat) (v u : Value) (l l2 : List Nat) (hs : a.eval s = v) (hown : w.ownsRow base 55 2 v l.length (flatT l)) (hx : a.eval x = u)
    (hu : (u = .slice Option.none 0 0 ∧ l2 = []) ∨ ∃ ad c, u = .slice (some ad) l2.length c ∧ ∀ j y, (flatT l2)[j]? = some y → w.cell? (ad.add j) = some y)
    (hl : l.length + l2.length ≤ 10000000) (hbase : base ≤ w.heap.size)
    (h : ∀ v' w', w'.ownsRow base 55 2 v' (l ++ l2).length (flatT (l ++ l2)) → Below base w w' → (∀ g, g < w.heap.size → some g ≠ v.ownBlock → w'.heap[g]? = w.heap[g]?) → K (a.put o.dst v') w') :
    if Region.wanted o (yielded ops a.tmps) = true then Oper.wp Tryz.prog o a w K Q else E := by
  have hw : Region.wanted o (yielded ops a.tmps) = true := by simp [Region.wanted, hgd]
  rw [if_pos hw]
  obtain ⟨i0, hi0, hz0, hz1, hz2⟩ := info_parts Tryz.info_rat48
  rcases hu with ⟨rfl, rfl⟩ | ⟨ad, c, rfl, hc⟩
  · have hrun := run_append_owned_none (P := Tryz.prog) (w := w) base 48 o.type 55 i0 2 Tryz.underlying48 hi0 v _ _ hown
    unfold Oper.wp
    simp [execOp, ho, resolve, invoke, builtin, hs, hx, hrun, Result.andThen]
    exact h v w (by rw [List.append_nil]; exact hown) (Below.refl _ _) fun _ _ _ => rfl
  · obtain ⟨v', w', hrun, ho', hg, _⟩ := run_append_own_at (P := Tryz.prog) w base 48 o.type 55 i0 (.agg #[.string ⟨#[]⟩, .string ⟨#[]⟩]) 2 32 Tryz.underlying48 hi0 hz0 hz1 hz2 rfl (by decide) v _ _ hown ad l2.length c (flatT l2) (flatT_len l2) hc (flatT_one l2) (by unfold maxLen; omega) (by omega) hbase
    unfold Oper.wp
    simp [execOp, ho, resolve, invoke, builtin, hs, hx, hrun, Result.andThen]
    exact h v' w' (by rw [List.length_append, flatT_app]; exact ho') ((Below.refl _ _).grown hg hbase fun k hk => (hown.lt k hk).1) fun g h1 h2 => hg.block g h1 h2

theorem heap_second (V : World) (o1 o2 : Obj) : ((V.alloc o1).alloc o2).drew.heap[V.heap.size + 1]? = some o2 := by
  have h := heap_alloc_new (V.alloc o1) o2
  rw [World.size_alloc] at h
  exact h
theorem heap_first (V : World) (o1 o2 : Obj) : ((V.alloc o1).alloc o2).drew.heap[V.heap.size]? = some o1 := by
  have hb : Below (V.alloc o1).heap.size (V.alloc o1) ((V.alloc o1).alloc o2) := (Below.refl _ _).alloc (Nat.le_refl _) _
  have h := hb.block V.heap.size (by simp)
  exact h.trans (heap_alloc_new V o1)

theorem own_second (V : World) (o1 : Obj) (b : Nat) (hb : b ≤ V.heap.size) : ((V.alloc o1).alloc (.cells #[] 55)).ownsRow b 55 2 (.slice (some ⟨V.heap.size + 1, 0, Option.none⟩) 0 0) ([] : List Nat).length (flatT []) := by
  have h := World.ownsRow_lit (base := b) (e := 55) (size := 2) (V.alloc o1) #[] 0 (by rw [World.size_alloc]; omega) (by decide) rfl
  rw [World.size_alloc] at h
  exact h

end Go.Proofs.YtphlodmdcmcjnaaGreatDoor

namespace Go.Proofs.YtphlodmdcmcjnaaGreatDoor
open Go.RowKit Go.Lib

theorem sli_voice {s : Sc} {dss : List (List Nat)} (h : ShortV s.voices dss) : ∀ k (hk : k < s.voices.length), ∃ ds, dss[k]? = some ds ∧ TimesOf (s.voices[k]'hk).evs ds ∧ ds.sum ≤ 1000000 ∧ (s.voices[k]'hk).evs.length ≤ 1000 ∧ (strt ds).length = (s.voices[k]'hk).evs.length + 1 ∧ insTo (dss.map strt) (k + 1) = insAll (insTo (dss.map strt) k) (strt ds) ∧ ∀ x ∈ strt ds, x ≤ 1000000 := by
  intro k hk
  obtain ⟨ds, hds, ht⟩ := h.tv.at_ hk
  have hm := List.mem_of_getElem? hds
  refine ⟨ds, hds, ht, h.sum ds hm, h.evs _ (List.getElem_mem hk), by rw [strt_len, ht.len], ?_, fun x hx => Nat.le_trans (strt_le hx) (h.sum ds hm)⟩
  have hk2 : k < (dss.map strt).length := by rw [List.length_map, ← h.tv.len]; exact hk
  rw [insTo_next hk2, List.getElem_map]
  congr 2
  obtain ⟨h1, h2⟩ := List.getElem?_eq_some_iff.1 hds
  exact h2
theorem sli_len {s : Sc} {dss : List (List Nat)} (h : ShortV s.voices dss) : ∀ k, k ≤ s.voices.length → (insTo (dss.map strt) k).length ≤ k * 1001 := by
  intro k
  induction k with
  | zero => intro _; simp [insTo, insAll]
  | succ k ih =>
    intro hk
    obtain ⟨ds, _, _, _, h4, h5, h6, _⟩ := sli_voice h k hk
    have h1 := ih (by omega)
    have h2 := insTo_len_le (l := insTo (dss.map strt) k) (ts := strt ds)
    rw [h6]
    omega
theorem sli_bd {s : Sc} {dss : List (List Nat)} (h : ShortV s.voices dss) : ∀ k, ∀ x ∈ insTo (dss.map strt) k, x ≤ 1000000 := by
  intro k x hx
  unfold insTo at hx
  rcases insAll_mem.1 hx with hx | hx
  · obtain ⟨l, hl, hxl⟩ := List.mem_flatten.1 hx
    obtain ⟨ds, hds, rfl⟩ := List.mem_map.1 (List.mem_of_mem_take hl)
    exact Nat.le_trans (strt_le hxl) (h.sum ds hds)
  · simp at hx
theorem sli_fin {s : Sc} {dss : List (List Nat)} (h : ShortV s.voices dss) : (slcN dss).length = (insTo (dss.map strt) s.voices.length).length - 1 ∧ (insTo (dss.map strt) s.voices.length).length ≤ 1001000 ∧ ∀ i, i < (insTo (dss.map strt) s.voices.length).length - 1 → ∃ a b, (insTo (dss.map strt) s.voices.length)[i]? = some a ∧ (insTo (dss.map strt) s.voices.length)[i + 1]? = some b ∧ a ≤ 1000000 ∧ (slcN dss)[i]? = some (a, b, sndN (dss.map strt) a) ∧ (sndN (dss.map strt) a).length ≤ 10000000 := by
  have hl := sli_len h s.voices.length (Nat.le_refl _)
  have hv := h.vcs
  have e0 : s.voices.length = (dss.map strt).length := by rw [List.length_map]; exact h.tv.len
  refine ⟨?_, by omega, ?_⟩
  · by_cases hd : dss = []
    · subst hd
      rw [e0]
      have e1 : ptsN [] = [0] := by decide
      unfold slcN
      rw [slcTo_len, e1]
      simp [insTo, insAll]
    · rw [e0, insTo_pts hd]
      exact slcTo_len _ _ _
  · by_cases hd : dss = []
    · subst hd
      rw [e0]
      intro i hi
      simp [insTo, insAll] at hi
    · rw [e0, insTo_pts hd]
      intro i hi
      have ha := List.getElem?_eq_getElem (show i < (ptsN dss).length by omega)
      have hb := List.getElem?_eq_getElem (show i + 1 < (ptsN dss).length by omega)
      have hle : (ptsN dss)[i]'(by omega) ≤ 1000000 := by
        refine pts_le h.sum ((isort_perm _).mem_iff.1 (ddN_mem_iff.1 (List.getElem_mem _)))
      refine ⟨_, _, ha, hb, hle, ?_, ?_⟩
      · unfold slcN slcTo
        rw [List.getElem?_map, List.getElem?_range hi]
        simp [ha, hb]
      · have h1 := sndAll_len (fun x => decide (x ≤ (ptsN dss)[i]'(by omega))) (fun x => decide ((ptsN dss)[i]'(by omega) < x)) (dss.map strt) 1000 (fun l hl => (all_short h hl).2) (dss.map strt).length (Nat.le_refl _)
        have h2 := Nat.mul_le_mul_right 1000 (show (dss.map strt).length ≤ 1000 by omega)
        unfold sndN snd
        omega
theorem LT.dropAt {α : Type} {T : TypeId} {s : Nat} {Q : α → List Value → Prop} {w : World} {B g o : Nat} {l : List α} (h : LT T s Q w B (some ⟨g, o, Option.none⟩) l) (p : Nat) : LT T s Q w B (some ⟨g, o + p * s, Option.none⟩) (l.drop p) := ⟨fun k x hx => by
  rw [List.getElem?_drop] at hx
  obtain ⟨b, o', cs, e, h1, h2, h3, h4, h5⟩ := h.get (p + k) x hx
  injection e with e
  injection e with e1 e2 _
  subst e1 e2
  refine ⟨_, _, cs, rfl, h1, h2, h3, fun j hj => ?_, h5⟩
  have := h4 j hj
  rw [show o + p * s + k * s + j = o + (p + k) * s + j by rw [Nat.add_mul]; omega]
  exact this⟩
theorem posD_next {t m : Nat} {l : List Nat} (hm : m ≤ posD t l) (hl : m < l.length) (h : l[m]'hl < t) : m + 1 ≤ posD t l := by
  rcases Nat.lt_or_ge m (posD t l) with h1 | h1
  · exact h1
  · obtain rfl : m = posD t l := by omega
    exact absurd h (posD_stop hl)
theorem posD_here {t m : Nat} {l : List Nat} (hm : m ≤ posD t l) (hl : m < l.length) (h : ¬ l[m]'hl < t) : m = posD t l := by
  rcases Nat.lt_or_ge m (posD t l) with h1 | h1
  · exact absurd (posD_lt hl h1) h
  · omega
theorem cmpN_lt48 {a b : Nat} : cmpN a b < 0 ↔ a < b := by
  unfold cmpN
  split
  · simp; omega
  · split
    · simp; omega
    · simp; omega

end Go.Proofs.YtphlodmdcmcjnaaGreatDoor
