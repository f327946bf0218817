import Derived.Test.YtaaeekahhhookaaGreatDoorShelf2
import Derived.Test.YtaaeekahhhookaaGreatDoorGCCk
import Derived.Test.YtaaeekahhhookaaGreatDoorFSgMCk
import Derived.Test.YtaaeekahhhookaaGreatDoorGBCk
import Derived.Deep.Cut
namespace Go.Proofs.YtaaeekahhhookaaGreatDoor
open Go.RowKit Go.Lib
theorem cutPrefix_any (s p : List UInt8) (w : World) : Calls Tryz.prog 207 #[.string ⟨s.toArray⟩, .string ⟨p.toArray⟩] w fun e w' => e = .returned (.tuple #[.string ⟨(Lib.trimPrefix s p).toArray⟩, .bool (Lib.hasPrefix s p)]) ∧ Below w.heap.size w w' :=
 (Tryz.strings_CutPrefix ⟨s.toArray⟩ ⟨p.toArray⟩ w).mono fun _ _ ⟨h, hw⟩ => ⟨h, hw ▸ Below.refl _ _⟩
theorem trimZeros_any (s : List UInt8) (w : World) : Calls Tryz.prog 246 #[.string ⟨s.toArray⟩, .string ⟨#[48]⟩] w fun e w' => e = .returned (.string ⟨(Lib.trimLeftB s 48).toArray⟩) ∧ Below w.heap.size w w' :=
 (Tryz.strings_TrimLeft_one ⟨s.toArray⟩ 48 (by decide) w).mono fun _ _ ⟨h, hw⟩ => ⟨h, hw ▸ Below.refl _ _⟩
theorem indexAny_ascii (s c : List UInt8) (w : World) (hs : s.length < 4294967281) (hc : c.length < 4294967281) (has : ∀ x ∈ s, x.toNat < 128) (hac : ∀ x ∈ c, x.toNat < 128) :
  Calls Tryz.prog 208 #[.string ⟨s.toArray⟩, .string ⟨c.toArray⟩] w fun e w' => e = .returned (.int .i64 (Lib.indexAny s c)) ∧ Below w.heap.size w w' :=
 Tryz.strings_IndexAny_laid ⟨s.toArray⟩ ⟨c.toArray⟩ w hs hc (fun _ b h => has b (List.mem_of_getElem? h)) (fun _ b h => hac b (List.mem_of_getElem? h))
theorem trimPrefix_any (s p : List UInt8) (w : World) : Calls Tryz.prog 251 #[.string ⟨s.toArray⟩, .string ⟨p.toArray⟩] w fun e w' => e = .returned (.string ⟨(Lib.trimPrefix s p).toArray⟩) ∧ Below w.heap.size w w' :=
 (Tryz.strings_TrimPrefix ⟨s.toArray⟩ ⟨p.toArray⟩ w).mono fun _ _ ⟨h, hw⟩ => ⟨h, hw ▸ Below.refl _ _⟩
theorem cutSuffix_any (s p : List UInt8) (w : World) (hs : s.length ≤ 9223372036854775807) : Calls Tryz.prog 211 #[.string ⟨s.toArray⟩, .string ⟨p.toArray⟩] w fun e w' => e = .returned (.tuple #[.string ⟨(Lib.trimSuffix s p).toArray⟩, .bool (Lib.hasSuffix s p)]) ∧ Below w.heap.size w w' :=
 (Tryz.strings_CutSuffix ⟨s.toArray⟩ ⟨p.toArray⟩ w hs).mono fun _ _ ⟨h, hw⟩ => ⟨h, hw ▸ Below.refl _ _⟩
theorem split_run (s p : List UInt8) (m : Int) (w : World) (hs : s.length < 4294967281) (hm : w.cell? ⟨0, 0, Option.none⟩ = some (.int .i64 m)) (h1 : 1 ≤ p.length) :
  Calls Tryz.prog 76 #[.string ⟨s.toArray⟩, .string ⟨p.toArray⟩] w fun e w' => e = .returned (.slice (some ⟨w.heap.size, 0, Option.none⟩) (Lib.countB ⟨s.toArray⟩ ⟨p.toArray⟩ + 1) (Lib.countB ⟨s.toArray⟩ ⟨p.toArray⟩ + 1)) ∧ w' = w.alloc (.cells ((Lib.splitB ⟨p.toArray⟩ 0 (Lib.countB ⟨s.toArray⟩ ⟨p.toArray⟩) ⟨s.toArray⟩).map Value.string).toArray 9) :=
 Tryz.strings_Split ⟨s.toArray⟩ ⟨p.toArray⟩ m w hs hm h1
def LenIs (w : World) : Prop := ∃ m, w.cell? ⟨0, 0, Option.none⟩ = some (.int .i64 m)
theorem LenIs.below {w w' : World} (h : LenIs w) (hb : Below w.heap.size w w') : LenIs w' := by
 obtain ⟨m, hm⟩ := h
 exact ⟨m, (hb.cell (cell_lt hm)).trans hm⟩
theorem indexByte_any (s : List UInt8) (c : UInt8) (w : World) : Calls Tryz.prog 118 #[.string ⟨s.toArray⟩, .int .u8 c.toNat] w fun e w' => e = .returned (.int .i64 (Lib.indexByte s c)) ∧ w = w' := by
 have h := Tryz.strings_IndexByte ⟨s.toArray⟩ (c.toNat : Int) w
 rw [show ((c.toNat : Int)).toNat.toUInt8 = c by simp] at h
 exact h.mono fun _ _ ⟨h1, h2⟩ => ⟨h1, h2.symm⟩
theorem repeat_any (s : List UInt8) (n : Nat) (w : World) (hn : n ≤ 1000000) (hs : s.length ≤ 1000000) : Calls Tryz.prog 210 #[.string ⟨s.toArray⟩, .int .i64 n] w fun e w' => e = .returned (.string ⟨(Lib.repeatL s n).toArray⟩) ∧ Below w.heap.size w w' :=
 Tryz.strings_Repeat ⟨s.toArray⟩ n w (by omega) (by
  show s.toArray.size * n ≤ _
  rw [List.size_toArray]
  have := Nat.mul_le_mul hs hn
  omega)
theorem cut_any' (s p : List UInt8) (m : Int) (w : World) (hs : s.length < 4294967281) (hm : w.cell? ⟨0, 0, Option.none⟩ = some (.int .i64 m)) : Calls Tryz.prog 112 #[.string ⟨s.toArray⟩, .string ⟨p.toArray⟩] w fun e w' => e = .returned (.tuple #[.string ⟨(Lib.cut s p).1.toArray⟩, .string ⟨(Lib.cut s p).2.1.toArray⟩, .bool (Lib.cut s p).2.2]) ∧ Below w.heap.size w w' :=
 (Tryz.strings_Cut ⟨s.toArray⟩ ⟨p.toArray⟩ m w hs hm).mono fun _ _ ⟨h1, h2⟩ => ⟨h1, drew_below h2⟩
set_option maxHeartbeats 1000000 in
theorem pcmp_any (A1 A2 : Option Addr) (x y c1 c2 : Nat) (w : World) (h1 : Row w w.heap.size 1 A1 (pcs x).length (us (pcs x))) (h2 : Row w w.heap.size 1 A2 (pcs y).length (us (pcs y))) (hx : (pcs x).length ≤ 1000000) (hy : (pcs y).length ≤ 1000000) :
  Calls Tryz.prog 225 #[.slice A1 (pcs x).length c1, .slice A2 (pcs y).length c2] w fun e w' => e = .returned (.int .i64 (cmpN x y)) ∧ Below w.heap.size w w' := by
 have p1 := pcs_lt x
 have p2 := pcs_lt y
 rcases Nat.lt_trichotomy (pcs x).length (pcs y).length with hlt | heq | hgt
 ·have hc : cmpN x y = -1 := by unfold cmpN; rw [if_pos (pcs_len_lt hlt)]
  rw [hc]
  clear hc p1 p2
  generalize (pcs x).length = n at *
  generalize (pcs y).length = m at *
  go_enter Tryz.func225, Tryz.ntmps225
  go_wp2
  go_ret
  exact ⟨ret_int (by omega), Below.refl _ _⟩
 ·have HEQ := Lib.hid heq
  have hxv := pv_pcs x
  have hyv := pv_pcs y
  generalize hl1 : pcs x = l at *
  generalize hl2 : pcs y = r at *
  have HXV := Lib.hid hxv
  have HYV := Lib.hid hyv
  clear heq hxv hyv hl1 hl2
  have hne : ((l.length : Int) != (r.length : Int)) = false := by simp [HEQ.out]
  go_enter Tryz.func225, Tryz.ntmps225
  go_wp2
  go_loopw [5] (fun i wr => ∃ k : Nat, k ≤ l.length ∧ i = .int .i64 ((k : Int) - 1) ∧ Box (l.drop k = r.drop k) ∧ Below w.heap.size w wr) (fun i _ => (intOf i + 1).toNat)
  case atStart => exact ⟨l.length, Nat.le_refl _, rfl, ⟨by rw [List.drop_of_length_le (Nat.le_refl _), List.drop_of_length_le (by rw [HEQ.out]; exact Nat.le_refl _)]⟩, Below.refl _ _⟩
  case round =>
   obtain ⟨k, hk, rfl, HD, hbw⟩ := hrel
   by_cases hk0 : 0 < k
   ·obtain ⟨j, rfl⟩ : ∃ j, k = j + 1 := ⟨k - 1, by omega⟩
    obtain ⟨ad1, rfl, _, hca⟩ := (h1.below hbw (Nat.le_refl _)).u_at (k := j) (by omega)
    obtain ⟨ad2, rfl, _, hcb⟩ := (h2.below hbw (Nat.le_refl _)).u_at (k := j) (by rw [← HEQ.out]; omega)
    have hj1 : (((j + 1 : Nat) : Int) - 1) = (j : Int) := by omega
    rw [hj1]
    have hlt1 : Box (l[j]?.getD 0 < r[j]?.getD 0 → x < y) := ⟨fun h => by rw [← HXV.out, ← HYV.out]; exact pv_lt_at p1 HEQ.out (by omega) HD.out h⟩
    have hgt1 : Box (r[j]?.getD 0 < l[j]?.getD 0 → y < x) := ⟨fun h => by rw [← HXV.out, ← HYV.out]; exact pv_lt_at p2 HEQ.out.symm (by rw [← HEQ.out]; omega) HD.out.symm h⟩
    have heq1 : Box (l[j]?.getD 0 = r[j]?.getD 0 → l.drop j = r.drop j) := ⟨fun h => by
     have hl : j < l.length := by omega
     have hr : j < r.length := by rw [← HEQ.out]; omega
     rw [List.drop_eq_getElem_cons hl, List.drop_eq_getElem_cons hr, HD.out]
     rw [List.getElem?_eq_getElem hl, List.getElem?_eq_getElem hr] at h
     simp at h
     rw [h]⟩
    generalize l[j]?.getD 0 = a at *
    generalize r[j]?.getD 0 = b at *
    have hj0 : (0 : Int) ≤ (j : Int) := by omega
    have hjl : (j : Int) < (l.length : Int) := by omega
    have hjr : (j : Int) < (r.length : Int) := by rw [← HEQ.out]; omega
    clear hj1
    rcases Nat.lt_trichotomy a b with h | h | h
    ·have hd : decide ((a : Int) < (b : Int)) = true := by simpa using h
     have HE : Box (cmpN x y = -1) := ⟨by unfold cmpN; rw [if_pos (hlt1.out h)]⟩
     go_wp2_with fail
     go_quiet (fail)
     go_wp2_with fail
     go_ret
     exact ⟨ret_int HE.out.symm, below_drewN hbw _⟩
    ·subst h
     have HE := heq1.out rfl
     have HED : Box (l.drop j = r.drop j) := ⟨HE⟩
     clear HE heq1
     go_wp2_with fail
     go_quiet (fail)
     go_wp2_with fail
     go_quiet (fail)
     go_wp2_with fail
     go_roundw
     case rel => exact ⟨j, by omega, by go_num, HED, below_drewN hbw _⟩
     case measure => (simp [intOf]; try omega)
    ·have hd : decide ((a : Int) < (b : Int)) = false := by simp; omega
     have hd2 : decide ((b : Int) < (a : Int)) = true := by simpa using h
     have HE : Box (cmpN x y = 1) := ⟨by have := hgt1.out h; unfold cmpN; rw [if_neg (by omega), if_neg (by omega)]⟩
     go_wp2_with fail
     go_quiet (fail)
     go_wp2_with fail
     go_quiet (fail)
     go_wp2_with fail
     go_ret
     exact ⟨ret_int HE.out.symm, below_drewN (below_drewN hbw _) _⟩
   ·obtain rfl : k = 0 := by omega
    have HE : Box (cmpN x y = 0) := ⟨by
     have h := HD.out
     simp only [List.drop_zero] at h
     have : x = y := by rw [← HXV.out, ← HYV.out, h]
     unfold cmpN
     rw [if_neg (by omega), if_pos this]⟩
    go_wp2_with fail
    go_ret
    exact ⟨ret_int HE.out.symm, hbw⟩
 ·have hc : cmpN x y = 1 := by unfold cmpN; have := pcs_len_lt hgt; rw [if_neg (by omega), if_neg (by omega)]
  rw [hc]
  clear hc p1 p2
  generalize (pcs x).length = n at *
  generalize (pcs y).length = m at *
  go_enter Tryz.func225, Tryz.ntmps225
  go_wp2
  go_ret
  exact ⟨ret_int (by omega), Below.refl _ _⟩
theorem below_box {w w1 : World} {o : Obj} (hb : Below (w.heap.size + 1) (w.alloc o) w1) : Below w.heap.size w w1 := ((Below.refl _ _).alloc (Nat.le_refl _) o).trans (hb.mono (by omega))
theorem pcs_small {f : Nat} (h0 : 0 < f) (h : f < 1000000000) : pcs f = [f] := by
 rw [pcs_pos h0, Nat.mod_eq_of_lt h, Nat.div_eq_of_lt h, pcs_zero]
set_option maxHeartbeats 1000000 in
theorem scaled_own (v : Value) (b x f : Nat) (w : World) (h : PcsRow w b v x) (l : (pcs x).length ≤ 1000000) (h0 : 0 < f) (hf : f < 1000000000) :
  Calls Tryz.prog 257 #[v, .int .u64 f] w fun e w' => OwnP w.heap.size (x * f) w' e ∧ Below w.heap.size w w' := by
 have hc := Cells.new w 229 #[.int .u64 f]
 have hrow : Row (w.alloc (.cells #[.int .u64 f] 229)) (w.heap.size + 1) 1 (some ⟨w.heap.size, 0, Option.none⟩) 1 (us [f]) := hc.row (by omega) rfl
 have hb1 : Below w.heap.size w (w.alloc (.cells #[.int .u64 f] 229)) := (Below.refl _ _).alloc (Nat.le_refl _) _
 have hp1 : Pcs [f] := fun y hy => by rw [List.mem_singleton] at hy; omega
 have HT := Lib.hid (trim_any (some ⟨w.heap.size, 0, Option.none⟩) 1 1 (w.heap.size + 1) [f] (w.alloc (.cells #[.int .u64 f] 229)) hrow (Nat.le_refl _) (by unfold maxLen; omega) hp1)
 have hpv : pv [f] = f := by simp [pv]
 have hlen : (pcs (pv [f])).length = 1 := by rw [hpv, pcs_small h0 hf]; rfl
 have hv2 : PcsRow (w.alloc (.cells #[.int .u64 f] 229)) w.heap.size (.slice (some ⟨w.heap.size, 0, Option.none⟩) 1 1) f := by
  unfold PcsRow
  rw [pcs_small h0 hf]
  exact hc.own (Nat.le_refl _) rfl (by unfold maxLen; omega) (Nat.le_refl _)
 rw [hlen] at HT
 have HV := Lib.hid (h.below hb1)
 have HV2 := Lib.hid hv2
 have HL : Box ((pcs f).length ≤ 1000000) := ⟨by rw [pcs_small h0 hf]; simp⟩
 clear hc hrow hp1 hpv hlen hv2 h
 go_enter Tryz.func257, Tryz.ntmps257
 go_wp2_with fail
 refine HT.out.mono ?_
 rintro e w2 ⟨rfl, rfl⟩
 go_wp2_with fail
 refine (times_own _ _ _ _ x f _ HV.out HV2.out l HL.out).mono ?_
 rintro e w3 ⟨⟨v3, rfl, hv3⟩, hb3⟩
 go_wp2_with fail
 go_ret
 rw [World.size_alloc] at hv3 hb3
 exact ⟨⟨_, rfl, own_base hv3 (by omega)⟩, below_box hb3⟩
def OwnPP (base x y : Nat) (w' : World) (e : Ending) : Prop := ∃ v u, e = .returned (.tuple #[v, u]) ∧ PcsRow w' base v x ∧ PcsRow w' base u y
theorem Cells.grown {w w' : World} {g : Nat} {e : TypeId} {xs : List Value} {row : Option Nat} (h : Cells w g e xs) (hg : w.grownBy w' row) (hne : some g ≠ row) : Cells w' g e xs := (hg.block g h.lt hne).trans h
theorem pred_mul {g d : Nat} (h : 1 ≤ g) : (g - 1) * d + d = g * d := by
 obtain ⟨k, rfl⟩ : ∃ k, g = k + 1 := ⟨g - 1, by omega⟩
 rw [Nat.add_sub_cancel, Nat.succ_mul]
structure DivS (w wr : World) (X b n m k ga ca gb cb go : Nat) (a o : List Nat) : Prop where
 div : DivAt X b n m k a o
 arow : wr.ownsRow w.heap.size 229 1 (.slice (some ⟨ga, 0, Option.none⟩) m ca) m (us a)
 brow : wr.ownsRow w.heap.size 229 1 (.slice (some ⟨gb, 0, Option.none⟩) n cb) n (us (pcs b))
 orow : Cells wr go 229 (us o)
 below : Below w.heap.size w wr
 gaw : w.heap.size ≤ ga
 gow : w.heap.size ≤ go
theorem own_drewN {w : World} {base : Nat} {e : TypeId} {size : Nat} {v : Value} {n : Nat} {xs : List Value} (h : w.ownsRow base e size v n xs) (k : Nat) : (w.drewN k).ownsRow base e size v n xs := h
theorem DivS.drewN {w wr : World} {X b n m k ga ca gb cb go : Nat} {a o : List Nat} (h : DivS w wr X b n m k ga ca gb cb go a o) (q : Nat) : DivS w (wr.drewN q) X b n m k ga ca gb cb go a o :=
 ⟨h.div, own_drewN h.arow q, own_drewN h.brow q, h.orow.drewN q, below_drewN h.below q, h.gaw, h.gow⟩
set_option maxRecDepth 100000 in
set_option maxHeartbeats 4000000 in
theorem divide_own (v u : Value) (b1 b2 x y : Nat) (w : World) (hv : PcsRow w b1 v x) (hu : PcsRow w b2 u y) (hx : (pcs x).length ≤ 900000) (hy2 : 2 ≤ (pcs y).length) (hxy : y ≤ x) :
  Calls Tryz.prog 227 #[v, u] w fun e w' => OwnPP w.heap.size (x / y) (x % y) w' e ∧ Below w.heap.size w w' := by
 obtain ⟨i0, hi0, hz0, hz1, hz2⟩ := info_parts Tryz.info_u64
 obtain ⟨A1, c1, rfl, _, _, _⟩ := Row.of_own hv
 obtain ⟨A2, c2, rfl, hc21, hc22, r2⟩ := Row.of_own hu
 have hy0 : 0 < y := by
  rcases Nat.eq_zero_or_pos y with h | h
  ·subst h; rw [pcs_zero] at hy2; simp at hy2
  ·exact h
 have hl := getLast_pos y hy0
 obtain ⟨ad, rfl, _, hcu⟩ := r2.u_at (k := (pcs y).length - 1) (by omega)
 have hlt := pcs_getD (pcs_lt y) ((pcs y).length - 1)
 generalize (pcs y)[(pcs y).length - 1]?.getD 0 = z at *
 have hyl : (pcs y).length ≤ 900000 := Nat.le_trans (pcs_len_mono hxy) hx
 have HV := Lib.hid hv
 have HU := Lib.hid hu
 have HXY : Box (y ≤ x ∧ 0 < y) := ⟨hxy, hy0⟩
 have HLX : Box ((pcs x).length ≤ 900000 ∧ (pcs y).length ≤ 900000) := ⟨hx, hyl⟩
 have HY2 : Box (2 ≤ (pcs y).length) := ⟨hy2⟩
 have hf0 : 0 < 1000000000 / (z + 1) := Nat.div_pos (by omega) (by omega)
 have hf1 : 1000000000 / (z + 1) < 1000000000 := Nat.div_lt_self (by omega) (by omega)
 have hfe : (1000000000 : Int) / (↑z + 1) = ((1000000000 / (z + 1) : Nat) : Int) := by simp
 have HFE := Lib.hid hfe
 clear hv hu hxy hy0 hc21 hc22 r2 hfe
 generalize hnx : (pcs x).length = nx at *
 generalize hny : (pcs y).length = ny at *
 have HNX := Lib.hid hnx
 have HNY := Lib.hid hny
 clear hnx hny
 go_enter Tryz.func227, Tryz.ntmps227
 go_wp2_with fail
 rw [HFE.out]
 generalize 1000000000 / (z + 1) = f at *
 refine (scaled_own _ _ x f w HV.out (by rw [HNX.out]; omega) hf0 hf1).mono ?_
 rintro e w1 ⟨⟨v1, rfl, hv1⟩, hb1⟩
 have hv1' : w1.ownsRow w.heap.size 229 1 v1 (pcs (x * f)).length (us (pcs (x * f))) := hv1
 have HV1 := Lib.hid hv1'
 have HL1 : Box ((pcs (x * f)).length ≤ 900001 ∧ nx ≤ (pcs (x * f)).length) := ⟨pcs_mul_len x f _ (by rw [HNX.out, pcs_small hf0 hf1]; simp; omega), by rw [← HNX.out]; exact pcs_len_mono (Nat.le_mul_of_pos_right _ hf0)⟩
 generalize hn1 : (pcs (x * f)).length = n1 at *
 have HN1 := Lib.hid hn1
 clear hv1 hv1' hn1
 have hn1b := HL1.out
 go_wp2_with (at_builtin; refine wpList_append_own _ rfl _ _ _ rfl w.heap.size 229 i0 (.int .u64 0) 1 8 Tryz.underlying260 hi0 hz0 hz1 hz2 rfl (by decide) _ _ _ rfl (HV1.out.alloc _) ⟨w1.heap.size, 0, Option.none⟩ 1 1 [_] rfl rfl (cell_one_new _ _ _) (by intro u hu; simp at hu; subst hu; rfl) (by unfold maxLen; omega) (by omega) (by have := hb1.size; simp; omega) ?_; intro v3 w3 hown3 hg3 _)
 have h3 : w3.ownsRow w.heap.size 229 1 v3 (n1 + 1) (us (pcs (x * f) ++ [0])) := by rw [us_append]; exact hown3
 have hb3 : Below w.heap.size w w3 := (hb1.alloc hb1.size _).grown hg3 (by have := hb1.size; simp; omega) (fun k hk => (HV1.out.lt k hk).1)
 obtain ⟨ga, ca, rfl, hga, hgal⟩ := h3.form (by omega)
 have H3 := Lib.hid h3
 clear h3 hown3 hg3 HV1
 go_wp2_with fail
 refine (scaled_own _ _ y f w3 (HU.out.below hb3) (by rw [HNY.out]; omega) hf0 hf1).mono ?_
 rintro e w4 ⟨⟨v4, rfl, hv4⟩, hb4⟩
 have hv4' : w4.ownsRow w3.heap.size 229 1 v4 (pcs (y * f)).length (us (pcs (y * f))) := hv4
 have HL4 : Box ((pcs (y * f)).length ≤ (pcs (x * f)).length ∧ 2 ≤ (pcs (y * f)).length) := ⟨pcs_len_mono (Nat.mul_le_mul_right _ HXY.out.1), by have h := pcs_len_mono (Nat.le_mul_of_pos_right y hf0); rw [HNY.out] at h; omega⟩
 rw [HN1.out] at HL4
 generalize hn4 : (pcs (y * f)).length = n4 at *
 have HN4 := Lib.hid hn4
 have hn4b := HL4.out
 obtain ⟨gb, cb, rfl, hgb, hgbl⟩ := hv4'.form (by omega)
 have H4 := Lib.hid (own_base hv4' (show w.heap.size ≤ w3.heap.size from hb3.size))
 replace H3 := Lib.hid (own_below H3.out hb4)
 have hbw := hb3.trans (hb4.mono hb3.size)
 have hab : ga ≠ gb := by omega
 have hg4 : ga < w4.heap.size := Nat.lt_of_lt_of_le hgal hb4.size
 clear hv4 hv4' hb4 hb3 hn4 hgal HV HU
 go_wp2_with fail
 have hcond : decide ((n1 : Int) + 1 ≤ (nx : Int)) = false := by simp; omega
 go_loop [7] (fun a => a = .slice (some ⟨ga, 0, Option.none⟩) (n1 + 1) ca) (fun _ => 0)
 case atStart => rfl
 case round =>
  subst hrel
  go_wp2_with (at_make; refine wpList_make_full _ rfl _ _ _ rfl w.heap.size 229 i0 (.int .u64 0) 1 Tryz.underlying260 hi0 hz0 hz1 .i64 .i64 _ _ (n1 + 1 - n4) rfl rfl (by omega) (by omega) (by rw [hz2]; omega) (by unfold maxLen; omega) hbw.size ?_; intro w5 hown hg5)
  have hc5 : Cells w5 w4.heap.size 229 (us (List.replicate (n1 + 1 - n4) 0)) := Cells.of_full (by rw [← made_us]; exact hown)
  have hs5 : DivS w w5 (x * f) (y * f) n4 (n1 + 1) (n1 + 1 - n4) ga ca gb cb w4.heap.size (pcs (x * f) ++ [0]) (List.replicate (n1 + 1 - n4) 0) :=
   ⟨div_at_start (x * f) (y * f) n4 (n1 + 1) _ rfl (by rw [List.length_append, HN1.out]; rfl) HN4.out (by omega) (Nat.mul_pos HXY.out.2 hf0) (by omega), H3.out.kept hg5 (.inr (by simp [Value.ownBlock])), H4.out.kept hg5 (.inr (by simp [Value.ownBlock])), hc5, hbw.grown hg5 hbw.size (by simp), hga, hbw.size⟩
  have HS5 := Lib.hid hs5
  have hgo1 : ga ≠ w4.heap.size := by omega
  have hgo2 : gb ≠ w4.heap.size := by omega
  generalize w4.heap.size = go at *
  clear hown hg5 hc5 hs5 H3 H4 hcond hbw
  go_wp2_with fail
  go_loopw [11] (fun i wr => ∃ (k : Nat) (a o : List Nat), k ≤ n1 + 1 - n4 ∧ i = .int .i64 ((k : Int) - 1) ∧ DivS w wr (x * f) (y * f) n4 (n1 + 1) k ga ca gb cb go a o) (fun i _ => (intOf i + 1).toNat)
  case atStart => exact ⟨n1 + 1 - n4, _, _, Nat.le_refl _, congrArg (Value.int .i64) (by omega), HS5.out⟩
  case round =>
   clear HS5
   obtain ⟨k, a, o, hk, rfl, hs⟩ := hrel
   by_cases hk0 : 0 < k
   ·obtain ⟨i, rfl⟩ : ∃ j, k = j + 1 := ⟨k - 1, by omega⟩
    have hj1 : (((i + 1 : Nat) : Int) - 1) = (i : Int) := by omega
    rw [hj1]
    obtain ⟨hdig, hq9, _⟩ := hs.div.digit HN4.out (by omega) (show i + n4 < n1 + 1 by omega)
    have hA0 := own_u hs.arow (i + n4) (by omega)
    have hA1 := own_u hs.arow (i + (n4 - 1)) (by omega)
    have hA2 := own_u hs.arow (i + (n4 - 2)) (by omega)
    have hB1 := own_u hs.brow (n4 - 1) (by omega)
    have hB2 := own_u hs.brow (n4 - 2) (by omega)
    have l0 := pcs_getD hs.div.apcs (i + n4)
    have l1 := pcs_getD hs.div.apcs (i + (n4 - 1))
    have l2 := pcs_getD hs.div.apcs (i + (n4 - 2))
    have m1 := pcs_getD (pcs_lt (y * f)) (n4 - 1)
    have m2 := pcs_getD (pcs_lt (y * f)) (n4 - 2)
    have hone := hdig.one
    generalize a[i + n4]?.getD 0 = a0 at *
    generalize a[i + (n4 - 1)]?.getD 0 = a1 at *
    generalize a[i + (n4 - 2)]?.getD 0 = a2 at *
    generalize (pcs (y * f))[n4 - 1]?.getD 0 = d1 at *
    generalize (pcs (y * f))[n4 - 2]?.getD 0 = d2 at *
    rw [show i + (n4 - 1) = i + n4 - 1 by omega] at hA1
    rw [show i + (n4 - 2) = i + n4 - 2 by omega] at hA2
    have HDG := Lib.hid hdig
    have HSS := Lib.hid hs
    clear hdig hs hj1
    go_wp2_with fail
    have e1 : IntKind.i64.wrap ((i : Int) + n4) = (i : Int) + n4 := IntWalk.i64_in _ (by omega)
    have e2 : IntKind.i64.wrap ((i : Int) + n4 - 1) = (i : Int) + n4 - 1 := IntWalk.i64_in _ (by omega)
    have e3 : IntKind.u64.wrap ((a0 : Int) * 1000000000) = (a0 : Int) * 1000000000 := IntWalk.u64_in _ (by omega)
    have e4 : IntKind.u64.wrap ((a0 : Int) * 1000000000 + a1) = (a0 : Int) * 1000000000 + a1 := IntWalk.u64_in _ (by omega)
    have t1 : ((i : Int) + n4).toNat = i + n4 := by omega
    have t2 : ((i : Int) + n4 - 1).toNat = i + n4 - 1 := by omega
    have p1 : (0 : Int) ≤ (i : Int) + n4 := by omega
    have p2 : (0 : Int) ≤ (i : Int) + n4 - 1 := by omega
    have p3 : (i : Int) + n4 < (n1 : Int) + 1 := by omega
    have p4 : (i : Int) + n4 - 1 < (n1 : Int) + 1 := by omega
    go_quiet (fail)
    clear e1 e2 e3 e4 t1 t2 p1 p2 p3 p4
    replace HSS := Lib.hid (HSS.out.drewN nq)
    replace hA0 : (wr.drewN nq).cell? _ = _ := hA0
    replace hA1 : (wr.drewN nq).cell? _ = _ := hA1
    replace hA2 : (wr.drewN nq).cell? _ = _ := hA2
    replace hB1 : (wr.drewN nq).cell? _ = _ := hB1
    replace hB2 : (wr.drewN nq).cell? _ = _ := hB2
    generalize wr.drewN nq = wr at *
    rw [show (a0 : Int) * 1000000000 + a1 = ((a0 * 1000000000 + a1 : Nat) : Int) by simp]
    have hhi : a0 * 1000000000 + a1 ≤ 999999999999999999 := by omega
    generalize a0 * 1000000000 + a1 = hi at *
    go_wp2_with fail
    have hqv : hi / d1 ≤ hi := Nat.div_le_self _ _
    have hrv : hi % d1 < d1 := Nat.mod_lt _ (by omega)
    have hdv : Box (hi / d1 * d1 + hi % d1 = hi) := ⟨by rw [Nat.mul_comm]; exact Nat.div_add_mod hi d1⟩
    have e1 : IntKind.i64.wrap ((n4 : Int) - 1) = (n4 : Int) - 1 := IntWalk.i64_in _ (by omega)
    have t1 : ((n4 : Int) - 1).toNat = n4 - 1 := by omega
    have p1 : (0 : Int) ≤ (n4 : Int) - 1 := by omega
    have p2 : (n4 : Int) - 1 < (n4 : Int) := by omega
    have z1 : ¬ (d1 : Int) = 0 := by omega
    have z2 : ((d1 : Int) == 0) = false := by simp; omega
    have HQ : Box (IntKind.u64.wrap ((hi : Int) / (d1 : Int)) = ((hi / d1 : Nat) : Int)) := ⟨by
     rw [← Int.natCast_ediv]
     have : hi / d1 ≤ 999999999999999999 := Nat.le_trans hqv hhi
     generalize hi / d1 = g at *
     exact IntWalk.u64_in _ (by omega)⟩
    have HM : Box ((hi : Int) % (d1 : Int) = ((hi % d1 : Nat) : Int)) := ⟨by rw [← Int.natCast_emod]⟩
    have HGE : Box (pv (a.drop i) / (y * f) ≤ hi / d1) := ⟨guess_start HDG.out⟩
    generalize hqt : pv (a.drop i) / (y * f) = qt at *
    have HQT : Box (pv (a.drop i) / (y * f) = qt) := ⟨hqt⟩
    clear hqt
    go_quiet (fail)
    rw [HQ.out, HM.out]
    generalize hi / d1 = g0 at *
    generalize hi % d1 = r0 at *
    clear HQ HM e1 t1 p1 p2 z1 z2
    replace HSS := Lib.hid (HSS.out.drewN nq)
    replace hA2 : (wr.drewN nq).cell? _ = _ := hA2
    replace hB1 : (wr.drewN nq).cell? _ = _ := hB1
    replace hB2 : (wr.drewN nq).cell? _ = _ := hB2
    clear hA0 hA1
    generalize wr.drewN nq = wr at *
    go_wp2_with fail
    obtain ⟨wo, rfl⟩ : ∃ wo : World, wo = wr := ⟨_, rfl⟩
    go_loopw [13, 14] (fun gs rs wr => ∃ g r q : Nat, gs = .int .u64 g ∧ rs = .int .u64 r ∧ Box (g * d1 + r = hi) ∧ Box (qt ≤ g) ∧ wr = wo.drewN q) (fun gs _ _ => (intOf gs).toNat)
    case atStart => exact ⟨g0, r0, 0, rfl, rfl, hdv, HGE, rfl⟩
    case round =>
     obtain ⟨g, r, q, rfl, rfl, HGV, HGE2, rfl⟩ := hrel
     have hgd : g ≤ g * d1 := Nat.le_mul_of_pos_right g (by omega)
     have hgv := HGV.out
     have hgb : g ≤ 999999999999999999 := by omega
     have hrb : r ≤ 999999999999999999 := by omega
     have e1 : IntKind.i64.wrap ((n4 : Int) - 1) = (n4 : Int) - 1 := IntWalk.i64_in _ (by omega)
     have e2 : IntKind.i64.wrap ((n4 : Int) - 2) = (n4 : Int) - 2 := IntWalk.i64_in _ (by omega)
     have e3 : IntKind.i64.wrap ((i : Int) + n4) = (i : Int) + n4 := IntWalk.i64_in _ (by omega)
     have e4 : IntKind.i64.wrap ((i : Int) + n4 - 2) = (i : Int) + n4 - 2 := IntWalk.i64_in _ (by omega)
     have t1 : ((n4 : Int) - 1).toNat = n4 - 1 := by omega
     have t2 : ((n4 : Int) - 2).toNat = n4 - 2 := by omega
     have t3 : ((i : Int) + n4 - 2).toNat = i + n4 - 2 := by omega
     have p1 : (0 : Int) ≤ (n4 : Int) - 1 := by omega
     have p2 : (n4 : Int) - 1 < (n4 : Int) := by omega
     have p3 : (0 : Int) ≤ (n4 : Int) - 2 := by omega
     have p4 : (n4 : Int) - 2 < (n4 : Int) := by omega
     have p5 : (0 : Int) ≤ (i : Int) + n4 - 2 := by omega
     have p6 : (i : Int) + n4 - 2 < (n1 : Int) + 1 := by omega
     by_cases hg9 : 1000000000 ≤ g
     ·have hb1 : decide ((1000000000 : Int) ≤ (g : Int)) = true := by simp; omega
      have hmul : (g - 1) * d1 + d1 = g * d1 := pred_mul (by omega)
      have HR : Box ((g - 1) * d1 + (r + d1) = hi) := ⟨by omega⟩
      have HQ : Box (qt ≤ g - 1) := ⟨by omega⟩
      have hrd : r + d1 ≤ 999999999999999999 := by have := HR.out; omega
      clear hmul hgd hgv
      go_wp2_with fail
      go_quiet (fail)
      go_wp2_with fail
      go_roundw
      case rel => exact ⟨g - 1, r + d1, _, by go_num, by go_num, HR, HQ, rfl⟩
      case measure => (simp [intOf]; try omega)
     ·have hb1 : decide ((1000000000 : Int) ≤ (g : Int)) = false := by simp; omega
      have hgm : g * d2 ≤ 999999999 * 999999999 := Nat.mul_le_mul (by omega) (by omega)
      by_cases hgo : r < 1000000000 ∧ r * 1000000000 + a2 < g * d2
      ·obtain ⟨hr9, hcmp⟩ := hgo
       have hb2 : decide ((r : Int) < 1000000000) = true := by simp; omega
       have f1 : IntKind.u64.wrap ((g : Int) * d2) = (g : Int) * d2 := IntWalk.u64_in _ (by rw [← Int.natCast_mul]; omega)
       have f2 : IntKind.u64.wrap ((r : Int) * 1000000000) = (r : Int) * 1000000000 := IntWalk.u64_in _ (by omega)
       have f3 : IntKind.u64.wrap ((r : Int) * 1000000000 + a2) = (r : Int) * 1000000000 + a2 := IntWalk.u64_in _ (by omega)
       have hb3 : decide ((r : Int) * 1000000000 + a2 < (g : Int) * d2) = true := by simp; rw [← Int.natCast_mul]; omega
       have hstep := guess_step HDG.out HGV.out hcmp
       rw [HQT.out] at hstep
       have hmul : (g - 1) * d1 + d1 = g * d1 := pred_mul (by omega)
       have HR : Box ((g - 1) * d1 + (r + d1) = hi) := ⟨by omega⟩
       have HQ : Box (qt ≤ g - 1) := ⟨by omega⟩
       have hrd : r + d1 ≤ 999999999999999999 := by have := HR.out; omega
       have hg1 : 1 ≤ g := by omega
       clear hmul hgd hgv hstep hcmp hgm
       go_wp2_with fail
       go_quiet (fail)
       clear f1 f2 f3
       go_wp2_with fail
       go_roundw
       case rel => exact ⟨g - 1, r + d1, _, by go_num, by go_num, HR, HQ, rfl⟩
       case measure => (simp [intOf]; try omega)
      ·have HEND : Box (g ≤ qt + 1) := ⟨by rw [← HQT.out]; exact guess_end HDG.out HGV.out (by omega) hgo⟩
       have hg9' : g < 1000000000 := by omega
       by_cases hr : r < 1000000000
       case' pos =>
        have hcmp : ¬ r * 1000000000 + a2 < g * d2 := fun h => hgo ⟨hr, h⟩
        have hb2 : decide ((r : Int) < 1000000000) = true := by simp; omega
        have f1 : IntKind.u64.wrap ((g : Int) * d2) = (g : Int) * d2 := IntWalk.u64_in _ (by rw [← Int.natCast_mul]; omega)
        have f2 : IntKind.u64.wrap ((r : Int) * 1000000000) = (r : Int) * 1000000000 := IntWalk.u64_in _ (by omega)
        have f3 : IntKind.u64.wrap ((r : Int) * 1000000000 + a2) = (r : Int) * 1000000000 + a2 := IntWalk.u64_in _ (by omega)
        have hb3 : decide ((r : Int) * 1000000000 + a2 < (g : Int) * d2) = false := by simp; rw [← Int.natCast_mul]; omega
        clear hgo hgm hgd hgv hcmp
        go_wp2_with fail
        go_quiet (fail)
        clear f1 f2 f3 hb2 hb3
       case' neg =>
        have hb2 : decide ((r : Int) < 1000000000) = false := by simp; omega
        clear hgo hgm hgd hgv
        go_wp2_with fail
        go_quiet (fail)
        clear hb2
       all_goals
        clear hb1 e1 e2 e3 e4 t1 t2 t3 p1 p2 p3 p4 p5 p6 hA2 hB1 hB2
        go_wp2_with fail
        have HST := Lib.hid (HSS.out.drewN (q + nq))
        generalize wo.drewN (q + nq) = wt at *
        refine (take_any w.heap.size ga (n1 + 1) ca w.heap.size gb n4 cb a (pcs (y * f)) g i wt HST.out.arow HST.out.brow (Ne.symm hab) HST.out.div.apcs (pcs_lt _) hg9' (by omega) (by omega)).mono ?_
        rintro e wt2 ⟨a', bo, hT, rfl, hrow, hgr⟩
        rw [HN4.out] at hT
        have hbr := HST.out.brow.kept hgr (.inr (by simp [Value.ownBlock]; exact Ne.symm hab))
        have hor := HST.out.orow.grown hgr (by simp; exact Ne.symm hgo1)
        have hbl := HST.out.below.grown hgr HST.out.below.size (fun k hk => by injection hk with hk; subst hk; exact HST.out.gaw)
        have hol := HST.out.div.olen
        rcases (show bo = 0 ∨ bo = 1 by have := hT.bol; omega) with rfl | rfl
        ·have hco := hor.cell i
         rw [us_get o i (by omega)] at hco
         generalize o[i]?.getD 0 = ov at hco
         have hfo := hor.free i
         have HT := Lib.hid hT
         have HROW := Lib.hid hrow
         have HBR := Lib.hid hbr
         have HOR := Lib.hid hor
         clear hT hrow hbr hor hgr hol
         go_wp2_with fail
         go_roundw
         case rel =>
          refine ⟨i, a', o.set i g, by omega, by go_num, HST.out.div.right HN4.out (by omega) (by omega) (by rw [HQT.out]; exact HGE2.out) HT.out, ?_, ?_, cells_set_u HOR.out _ _ _ rfl, hbl.setCell HST.out.gow _, HST.out.gaw, HST.out.gow⟩
          ·exact HROW.out.kept (grown_set (World.grownBy.refl _ _) _ _) (.inr (by simp [Value.ownBlock]; exact hgo1))
          ·exact HBR.out.kept (grown_set (World.grownBy.refl _ _) _ _) (.inr (by simp [Value.ownBlock]; exact hgo2))
         case measure => (simp [intOf]; try omega)
        ·have hg1 : 1 ≤ g := by
          have h := HEND.out
          rcases Nat.eq_zero_or_pos g with h0 | h0
          ·exfalso
           subst h0
           have e := hT.val
           rw [List.take_of_length_le (by rw [HN4.out]; omega)] at e
           have h1 := pv_lt_of_zero (a'.drop i) (n4 + 1) (hT.pcs.drop _) (fun j hj => by rw [getD_drop, hT.high _ (by omega)]; exact (HST.out.div.digit HN4.out (by omega) (by omega)).2.2 _ (by omega))
           have h2 := drop_val (u := 0) (v := 1000000000 ^ (n4 + 1)) hT.len (by rw [HST.out.div.alen]; omega) hT.low (by rw [Nat.pow_add] at e; omega)
           omega
          ·exact h0
         have HT := Lib.hid hT
         have HROW := Lib.hid hrow
         have HBR := Lib.hid hbr
         have HOR := Lib.hid hor
         clear hT hrow hbr hor hgr
         go_wp2_with fail
         refine (back_any w.heap.size ga (n1 + 1) ca w.heap.size gb n4 cb a' (pcs (y * f)) i wt2 HROW.out HBR.out (Ne.symm hab) HT.out.pcs (pcs_lt _) (by omega) (by omega)).mono ?_
         rintro e wt3 ⟨a3, cy, hK, rfl, hrow3, hgr3⟩
         rw [HN4.out] at hK
         have hbr := HBR.out.kept hgr3 (.inr (by simp [Value.ownBlock]; exact Ne.symm hab))
         have hor := HOR.out.grown hgr3 (by simp; exact Ne.symm hgo1)
         have hbl3 := hbl.grown hgr3 hbl.size (fun k hk => by injection hk with hk; subst hk; exact HST.out.gaw)
         have hco := hor.cell i
         rw [us_get o i (by omega)] at hco
         generalize o[i]?.getD 0 = ov at hco
         have hfo := hor.free i
         have HK := Lib.hid hK
         have HROW3 := Lib.hid hrow3
         have HBR3 := Lib.hid hbr
         have HOR3 := Lib.hid hor
         clear hK hrow3 hbr hor hgr3 hol
         go_wp2_with fail
         go_roundw
         case rel =>
          refine ⟨i, a3, o.set i (g - 1), by omega, by go_num, (HST.out.div.over HN4.out (by omega) (by omega) (by rw [HQT.out]; exact HEND.out) HT.out HK.out).2, ?_, ?_, cells_set_u HOR3.out _ _ _ (by omega), hbl3.setCell HST.out.gow _, HST.out.gaw, HST.out.gow⟩
          ·exact HROW3.out.kept (grown_set (World.grownBy.refl _ _) _ _) (.inr (by simp [Value.ownBlock]; exact hgo1))
          ·exact HBR3.out.kept (grown_set (World.grownBy.refl _ _) _ _) (.inr (by simp [Value.ownBlock]; exact hgo2))
         case measure => (simp [intOf]; try omega)
   ·obtain rfl : k = 0 := by omega
    obtain ⟨hq1, hr1⟩ := div_at_end hs.div
    rw [Nat.mul_div_mul_right _ _ hf0] at hq1
    rw [Nat.mul_mod_mul_right] at hr1
    have hal := hs.div.alen
    have hol := hs.div.olen
    obtain ⟨A3, c3, e3, hc3, hm3, hrow3⟩ := Row.of_own hs.arow
    injection e3 with e31 _ e33
    subst e31 e33
    have HTA := Lib.hid (trim_any (some ⟨ga, 0, Option.none⟩) (n1 + 1) ca wr.heap.size a wr hrow3 hc3 hm3 hs.div.apcs)
    have hta := trim_take a hs.div.apcs
    have hown3 := own_take hs.arow (k := (pcs (pv a)).length) (by omega)
    rw [← us_take, hta.2] at hown3
    rw [hr1] at hown3 HTA hta
    have HO3 := Lib.hid hown3
    have HS0 := Lib.hid hs
    have HQ1 := Lib.hid hq1
    have HALN := Lib.hid hal
    have HOL := Lib.hid hol
    have hlen3 : (pcs (x % y * f)).length ≤ n1 + 1 := by have := hta.1; omega
    clear hs hq1 hr1 hal hol hrow3 hown3 hta hc3 hm3
    go_wp2_with fail
    refine HTA.out.mono ?_
    rintro e w6 ⟨rfl, rfl⟩
    go_wp2_with fail
    obtain ⟨A4, c4, e4, _, _, hrow4⟩ := Row.of_own HO3.out
    injection e4 with e41 _ e43
    subst e41 e43
    refine (small_any (some ⟨ga, 0, Option.none⟩) _ ca f (pcs (x % y * f)) wr hrow4 (pcs_lt _) (by omega) hf0 hf1).mono ?_
    rintro e w7 ⟨⟨v7, rfl, hv7⟩, hb7⟩
    rw [pv_pcs, Nat.mul_div_cancel _ hf0] at hv7
    have horow := HS0.out.orow.below hb7 HS0.out.orow.lt
    have HV7 := Lib.hid (own_base hv7 HS0.out.below.size)
    have hbw7 := HS0.out.below.trans (hb7.mono HS0.out.below.size)
    clear hv7 hb7 hrow4
    have hrow5 := horow.row (B := w7.heap.size) (n := n1 + 1 - n4) horow.lt (by rw [us_length, HOL.out])
    have HTO := Lib.hid (trim_any (some ⟨go, 0, Option.none⟩) (n1 + 1 - n4) (n1 + 1 - n4) w7.heap.size o w7 hrow5 (Nat.le_refl _) (by unfold maxLen; omega) HS0.out.div.opcs)
    have hto := trim_take o HS0.out.div.opcs
    have ho5 := horow.own (base := w.heap.size) (n := n1 + 1 - n4) (k := (pcs (pv o)).length) HS0.out.gow (by rw [us_length, HOL.out]) (by unfold maxLen; omega) (by rw [← HOL.out]; exact hto.1)
    rw [← us_take, hto.2] at ho5
    rw [HQ1.out] at ho5 HTO
    have HO5 := Lib.hid ho5
    clear ho5 hto hrow5 horow
    go_wp2_with fail
    refine HTO.out.mono ?_
    rintro e w8 ⟨rfl, rfl⟩
    go_wp2_with fail
    go_ret2
    exact ⟨⟨_, _, rfl, HO5.out, HV7.out⟩, hbw7⟩
theorem Std.drew {w : World} (h : Std w) : Std w.drew := h.below ((Below.refl w.heap.size w).drew) (Nat.le_refl _)
theorem below_of_drew {w0 w1 : World} (h : Below w0.drew.heap.size w0.drew w1) : Below w0.heap.size w0 w1 := ⟨h.os, h.tape, h.output, h.size, h.block⟩
theorem keep_cell {w0 w1 : World} {p : Addr} {v : Value} (h : w0.cell? p = some v) (hb : Below w0.heap.size w0 w1) : w1.cell? p = some v := (hb.cell (cell_lt h)).trans h
theorem keep_drew {w0 w1 : World} {p : Addr} {v : Value} (h : w0.cell? p = some v) (hb : Below w0.drew.heap.size w0.drew w1) : w1.cell? p = some v := keep_cell (w0 := w0.drew) h hb
set_option maxRecDepth 100000 in
set_option maxHeartbeats 1000000 in
theorem divMod_any (a b : Nat) (w : World) (hS : Std w) (ha : (decDigits a).length ≤ 100000) (hb : (decDigits b).length ≤ 100000) (h0 : 0 < b) :
  Calls Tryz.prog 184 #[.string ⟨(decDigits a).toArray⟩, .string ⟨(decDigits b).toArray⟩] w fun e w' => e = .returned (.tuple #[.string ⟨(decDigits (a / b)).toArray⟩, .string ⟨(decDigits (a % b)).toArray⟩, .int .i64 0]) ∧ Below w.heap.size w w' := by
 have hz := dec_eq_zero b
 rw [decide_eq_false (by omega)] at hz
 have HS := Lib.hid hS
 have HCA := Lib.hid (fun W => cut_dec a W (by omega))
 have HCB := Lib.hid (fun W => cut_dec b W (by omega))
 by_cases h18 : (decDigits a).length ≤ 18 ∧ (decDigits b).length ≤ 18
 ·have HB := Lib.hid (fun W => both_yes a b W h18.1 h18.2)
  have ha2 := len18 h18.1
  have hb2 := len18 h18.2
  have hq : a / b ≤ a := Nat.div_le_self _ _
  have hr : a % b < b := Nat.mod_lt _ h0
  have HO1 := Lib.hid (fun W (hW : Std W) => decOf_any (a / b) W (Nat.lt_of_le_of_lt hq (by omega)) hW)
  have HO2 := Lib.hid (fun W (hW : Std W) => decOf_any (a % b) W (Nat.lt_trans hr (by omega)) hW)
  have HW : Box (IntKind.u64.wrap ((a : Int) / (b : Int)) = ((a / b : Nat) : Int)) := ⟨by
   rw [← Int.natCast_ediv]
   generalize a / b = g at *
   exact IntWalk.u64_in _ (by omega)⟩
  have HM : Box ((a : Int).tmod (b : Int) = ((a % b : Nat) : Int)) := ⟨by rw [Int.tmod_eq_emod_of_nonneg (by omega)]; simp⟩
  have HM2 : Box ((a : Int) % (b : Int) = ((a % b : Nat) : Int)) := ⟨by rw [← Int.natCast_emod]⟩
  have HW2 : Box ((a : Int) / (b : Int) = ((a / b : Nat) : Int)) := ⟨by rw [← Int.natCast_ediv]⟩
  have z1 : ¬ (b : Int) = 0 := by omega
  have z2 : ((b : Int) == 0) = false := by simp; omega
  clear hS ha hb h18 ha2 hb2 hq hr
  generalize decDigits a = la at *
  generalize decDigits b = lb at *
  go_enter Tryz.func184, Tryz.ntmps184
  go_wp2_with fail
  refine (HB.out _).mono ?_
  rintro e w1 ⟨rfl, hb1⟩
  have HS1 := Lib.hid (HS.out.below hb1 (Nat.le_refl _)).drew
  go_wp2_with fail
  go_region_with (first | (go_at_call 196; (first | rw [HW.out] | rw [HW2.out]); refine (HO1.out _ HS1.out).mono ?_; rintro e w2 ⟨rfl, hb2⟩) | (go_at_call 196; (first | rw [HM.out] | rw [HM2.out]); refine (HO2.out _ (HS1.out.below hb2 (Nat.le_refl _))).mono ?_; rintro e w3 ⟨rfl, hb3⟩))
  all_goals
   go_wp2_with fail
   go_ret3
   have h2 := hb1.trans ((below_of_drew hb2).mono hb1.size)
   exact ⟨rfl, h2.trans (hb3.mono h2.size)⟩
 ·have HB := Lib.hid (fun W => both_no (decDigits a) (decDigits b) W (by omega) (by omega) (by omega))
  have hpa : (pcs a).length ≤ 100000 := Nat.le_trans (pcs_le_dec a) ha
  have hpb : (pcs b).length ≤ 100000 := Nat.le_trans (pcs_le_dec b) hb
  have HLA : Box ((pcs a).length ≤ 100000 ∧ (pcs b).length ≤ 100000) := ⟨hpa, hpb⟩
  have hda : Box (decDigits 0 = [48]) := ⟨by rw [dec_small (by omega)]; rfl⟩
  have HDA : Box (a < b → a / b = 0 ∧ a % b = a) := ⟨fun h => ⟨Nat.div_eq_of_lt h, Nat.mod_eq_of_lt h⟩⟩
  clear hS ha hb h18
  generalize hla : decDigits a = la at *
  generalize hlb : decDigits b = lb at *
  have HLAE : Box (decDigits a = la) := ⟨hla⟩
  clear hla hlb
  go_enter Tryz.func184, Tryz.ntmps184
  go_wp2_with fail
  refine (HB.out _).mono ?_
  rintro e w1 ⟨rfl, rfl⟩
  go_wp2_with fail
  refine (HCA.out _).mono ?_
  rintro e w2 ⟨⟨v2, rfl, hv2⟩, hb2⟩
  go_wp2_with fail
  refine (HCB.out _).mono ?_
  rintro e w3 ⟨⟨v3, rfl, hv3⟩, hb3⟩
  have hv2' := own_below hv2 hb3
  have h13 := hb2.trans (hb3.mono hb2.size)
  have HS3 := Lib.hid (HS.out.below h13 (Nat.le_refl _))
  obtain ⟨A2, c2, rfl, _, _, hr2⟩ := Row.of_own hv2'
  obtain ⟨A3, c3, rfl, _, _, hr3⟩ := Row.of_own hv3
  have HV2 := Lib.hid hv2'
  have HV3 := Lib.hid hv3
  have HC := Lib.hid (pcmp_any A2 A3 a b c2 c3 w3 hr2 hr3 (by have := HLA.out; omega) (by have := HLA.out; omega))
  clear hb2 hb3 hv2 hv2' hv3 hr2 hr3
  have hlen1 := HLA.out
  generalize hna : (pcs a).length = na at *
  generalize hnb : (pcs b).length = nb at *
  have HNA := Lib.hid hna
  have HNB := Lib.hid hnb
  clear hna hnb
  go_wp2_with fail
  refine HC.out.mono ?_
  rintro e w4 ⟨rfl, hb4⟩
  have h14 := h13.trans (hb4.mono h13.size)
  replace HS3 := Lib.hid (HS3.out.below hb4 (Nat.le_refl _))
  replace HV2 := Lib.hid (own_below HV2.out hb4)
  replace HV3 := Lib.hid (own_below HV3.out hb4)
  clear hb4 h13 HC
  by_cases hab : a < b
  ·have hc : cmpN a b = -1 := by unfold cmpN; rw [if_pos hab]
   rw [hc]
   obtain ⟨e1, e2⟩ := HDA.out hab
   have HE : Box (a / b = 0 ∧ a % b = a) := ⟨e1, e2⟩
   clear hc e1 e2
   go_wp2_with fail
   go_ret3
   exact ⟨by rw [HE.out.1, HE.out.2, hda.out, HLAE.out]; rfl, h14⟩
  ·have hc : decide (cmpN a b < 0) = false := by unfold cmpN; rw [if_neg hab]; split <;> decide
   generalize cmpN a b = cc at *
   have hn1 : 1 ≤ nb := by
    rw [← HNB.out, pcs_pos h0]; simp
   by_cases h1 : nb = 1
   ·have hb9 : b < 1000000000 := by
     have := pv_lt _ (pcs_lt b)
     rw [pv_pcs, HNB.out, h1] at this
     simpa using this
    subst h1
    obtain ⟨A5, c5, e5, _, _, hr5⟩ := Row.of_own HV3.out
    injection e5 with e51 _ e53
    subst e51 e53
    obtain ⟨ad, rfl, _, hcb⟩ := hr5.u_at (k := 0) (by omega)
    rw [pcs_small h0 hb9] at hcb
    simp at hcb
    have hcb' : w4.cell? ad = some (.int .u64 (b : Int)) := by simpa [Addr.add] using hcb
    obtain ⟨A6, c6, e6, _, _, hr6⟩ := Row.of_own HV2.out
    injection e6 with e61 _ e63
    subst e61 e63
    have HSM := Lib.hid (small_any A2 na c2 b (pcs a) w4 hr6 (pcs_lt a) (by omega) h0 hb9)
    rw [pv_pcs] at HSM
    clear hr5 hr6 hcb
    have HLQ : Box ((pcs (a / b)).length ≤ 1000000) := ⟨by have := pcs_len_mono (Nat.div_le_self a b); rw [HNA.out] at this; omega⟩
    have HLR : Box (a % b < 18446744073709551616) := ⟨by have := Nat.mod_lt a h0; omega⟩
    go_wp2_with fail
    refine HSM.out.mono ?_
    rintro e w5 ⟨⟨v5, rfl, hv5⟩, hb5⟩
    go_wp2_with fail
    refine (text_own v5 _ (a / b) w5 hv5 HLQ.out).mono ?_
    rintro e w6 ⟨rfl, hb6⟩
    have hs6 := (HS3.out.below hb5 (Nat.le_refl _)).below hb6 (Nat.le_refl _)
    go_wp2_with fail
    refine (decOf_any (a % b) w6 HLR.out hs6).mono ?_
    rintro e w7 ⟨rfl, hb7⟩
    go_wp2_with fail
    go_ret3
    have h15 := h14.trans (hb5.mono h14.size)
    have h16 := h15.trans (hb6.mono h15.size)
    exact ⟨rfl, h16.trans (hb7.mono h16.size)⟩
   ·have h1' : ((nb : Int) == 1) = false := by simp; omega
    have hn2 : 2 ≤ nb := by omega
    have HD := Lib.hid (divide_own (.slice A2 na c2) (.slice A3 nb c3) w.heap.size w2.heap.size a b w4 (by unfold PcsRow; rw [HNA.out]; exact HV2.out) (by unfold PcsRow; rw [HNB.out]; exact HV3.out) (by rw [HNA.out]; omega) (by rw [HNB.out]; exact hn2) (by omega))
    have HLQ : Box ((pcs (a / b)).length ≤ 1000000 ∧ (pcs (a % b)).length ≤ 1000000) := ⟨by have := pcs_len_mono (Nat.div_le_self a b); rw [HNA.out] at this; omega, by have := pcs_len_mono (Nat.mod_le a b); rw [HNA.out] at this; omega⟩
    clear h1
    go_wp2_with fail
    refine HD.out.mono ?_
    rintro e w5 ⟨⟨v5, u5, rfl, hv5, hu5⟩, hb5⟩
    go_wp2_with fail
    refine (text_own v5 _ (a / b) w5 hv5 HLQ.out.1).mono ?_
    rintro e w6 ⟨rfl, hb6⟩
    go_wp2_with fail
    refine (text_own u5 _ (a % b) w6 (hu5.below hb6) HLQ.out.2).mono ?_
    rintro e w7 ⟨rfl, hb7⟩
    go_wp2_with fail
    go_ret3
    have h15 := h14.trans (hb5.mono h14.size)
    have h16 := h15.trans (hb6.mono h15.size)
    exact ⟨rfl, h16.trans (hb7.mono h16.size)⟩
def strVal : Value → Nat
 | .string s => dval 0 s.data.toList
 | _ => 0
theorem strVal_dec (n : Nat) : strVal (.string ⟨(decDigits n).toArray⟩) = n := dval_dec n
attribute [irreducible] strVal
set_option maxHeartbeats 1000000 in
theorem decGcd_any (a b : Nat) (w : World) (hS : Std w) (ha : (decDigits a).length ≤ 100000) (hb : (decDigits b).length ≤ 100000) :
  Calls Tryz.prog 136 #[.string ⟨(decDigits a).toArray⟩, .string ⟨(decDigits b).toArray⟩] w fun e w' => e = .returned (.string ⟨(decDigits (Nat.gcd a b)).toArray⟩) ∧ Below w.heap.size w w' := by
 have HS := Lib.hid hS
 have HAB : Box ((decDigits a).length ≤ 100000 ∧ (decDigits b).length ≤ 100000) := ⟨ha, hb⟩
 clear hS ha hb
 go_enter Tryz.func136, Tryz.ntmps136
 go_wp2
 go_loopw [0, 1] (fun i j wr => ∃ x y : Nat, i = .string ⟨(decDigits x).toArray⟩ ∧ j = .string ⟨(decDigits y).toArray⟩ ∧ Box ((decDigits x).length ≤ 100000 ∧ (decDigits y).length ≤ 100000) ∧ Box (Nat.gcd x y = Nat.gcd a b) ∧ Below w.heap.size w wr) (fun _ j _ => strVal j)
 case atStart => exact ⟨a, b, rfl, rfl, HAB, ⟨rfl⟩, Below.refl _ _⟩
 case round =>
  obtain ⟨x, y, rfl, rfl, HL, HG, hbw⟩ := hrel
  have hz := dec_eq_zero y
  by_cases hy : y = 0
  ·rw [decide_eq_true hy] at hz
   have hz2 : (decDigits y != [48]) = false := by simp only [bne, hz]; rfl
   have HE : Box (Nat.gcd a b = x) := ⟨by rw [← HG.out, hy, Nat.gcd_zero_right]⟩
   clear hy
   generalize decDigits y = ly at *
   go_wp2
   go_ret
   exact ⟨ret_str (by rw [HE.out]), hbw⟩
  ·rw [decide_eq_false hy] at hz
   have hz2 : (decDigits y != [48]) = true := by simp only [bne, hz]; rfl
   have hm := Nat.mod_lt x (Nat.pos_of_ne_zero hy)
   have HD := Lib.hid (divMod_any x y wr (HS.out.below hbw (Nat.le_refl _)) HL.out.1 HL.out.2 (Nat.pos_of_ne_zero hy))
   have HR : Box ((decDigits y).length ≤ 100000 ∧ (decDigits (x % y)).length ≤ 100000) := ⟨HL.out.2, by have h1 := HL.out.2; rw [dec_length] at *; exact Nat.le_trans (nDigits_mono (by omega)) h1⟩
   have HG2 : Box (Nat.gcd y (x % y) = Nat.gcd a b) := ⟨by rw [← HG.out, Nat.gcd_comm x y, Nat.gcd_rec y x, Nat.gcd_comm]⟩
   have HM : Box (strVal (.string ⟨(decDigits (x % y)).toArray⟩) < strVal (.string ⟨(decDigits y).toArray⟩)) := ⟨by rw [strVal_dec, strVal_dec]; exact hm⟩
   clear hy hm
   generalize hly : decDigits y = ly at *
   have HLY : Box (decDigits y = ly) := ⟨hly⟩
   clear hly
   go_wp2_with fail
   refine HD.out.mono ?_
   rintro e w1 ⟨rfl, hb1⟩
   go_wp2_with fail
   go_roundw
   case rel => exact ⟨y, x % y, by rw [HLY.out], rfl, ⟨by rw [HLY.out]; exact HR.out⟩, HG2, hbw.trans (hb1.mono hbw.size)⟩
   case measure => exact HM.out
theorem us_zeros (m : Nat) : List.replicate m (Value.int .u64 0) = us (List.replicate m 0) := by simp [us]
theorem pcs_zeros {l : List Nat} (h : Pcs l) (m : Nat) : Pcs (l ++ List.replicate m 0) := by
 intro x hx
 rcases List.mem_append.1 hx with hx | hx
 ·exact h x hx
 ·rw [List.eq_of_mem_replicate hx]; omega
theorem pv_pad (l : List Nat) (m : Nat) : pv (l ++ List.replicate m 0) = pv l := by
 rw [pv_append, pv_zeros _ (fun x hx => List.eq_of_mem_replicate hx)]; omega
theorem back_sum {X Y n cy m : Nat} {o : List Nat} (hX : (pcs X).length = n) (hY : (pcs Y).length + m = n) (h : BackAt (pcs X ++ [0]) (pcs Y ++ List.replicate m 0) 0 (n + 1) cy o) : pv o = X + Y := by
 have e := h.val
 rw [List.take_of_length_le (by rw [List.length_append, List.length_replicate]; omega), pv_pad, pv_pcs, pv_append, pv_pcs] at e
 simp only [pv, Nat.pow_zero, Nat.one_mul, Nat.mul_zero, Nat.add_zero, Nat.zero_add] at e
 have hl := pv_lt o h.pcs
 rw [h.len, List.length_append, hX] at hl
 have hx := pv_lt _ (pcs_lt X)
 have hy := pv_lt _ (pcs_lt Y)
 rw [pv_pcs] at hx hy
 rw [hX] at hx
 have hy2 : (1000000000 : Nat) ^ (pcs Y).length ≤ 1000000000 ^ n := Nat.pow_le_pow_right (by omega) (by omega)
 have hp : (1000000000 : Nat) ^ (n + 1) = 1000000000 ^ n * 1000000000 := Nat.pow_succ ..
 have hcy := h.cyl
 simp only [List.length_singleton] at hl
 rcases (show cy = 0 ∨ cy = 1 by omega) with rfl | rfl
 ·omega
 ·omega
def SumIs (a b X Y : Nat) : Prop := X + Y = a + b
set_option maxRecDepth 100000 in
set_option maxHeartbeats 2000000 in
theorem decAdd_any (a b : Nat) (w : World) (hS : Std w) (ha : (decDigits a).length ≤ 100000) (hb : (decDigits b).length ≤ 100000) :
  Calls Tryz.prog 188 #[.string ⟨(decDigits a).toArray⟩, .string ⟨(decDigits b).toArray⟩] w fun e w' => e = .returned (.string ⟨(decDigits (a + b)).toArray⟩) ∧ Below w.heap.size w w' := by
 obtain ⟨i0, hi0, hz0, hz1, hz2⟩ := info_parts Tryz.info_u64
 have HS := Lib.hid hS
 have HCA := Lib.hid (fun W => cut_dec a W (by omega))
 have HCB := Lib.hid (fun W => cut_dec b W (by omega))
 by_cases h18 : (decDigits a).length ≤ 18 ∧ (decDigits b).length ≤ 18
 ·have HB := Lib.hid (fun W => both_yes a b W h18.1 h18.2)
  have ha2 := len18 h18.1
  have hb2 := len18 h18.2
  have HO := Lib.hid (fun W (hW : Std W) => decOf_any (a + b) W (by omega) hW)
  have h1 : (a : Int) ≤ 999999999999999999 := by omega
  have h2 : (b : Int) ≤ 999999999999999999 := by omega
  have HAD : Box ((a : Int) + (b : Int) = ((a + b : Nat) : Int)) := ⟨by simp⟩
  clear hS ha hb h18 ha2 hb2
  generalize decDigits a = la at *
  generalize decDigits b = lb at *
  go_enter Tryz.func188, Tryz.ntmps188
  go_wp2_with fail
  refine (HB.out _).mono ?_
  rintro e w1 ⟨rfl, hb1⟩
  go_wp2_with fail
  rw [HAD.out]
  refine (HO.out _ (HS.out.below hb1 (Nat.le_refl _))).mono ?_
  rintro e w2 ⟨rfl, hb2⟩
  go_wp2_with fail
  go_ret
  exact ⟨rfl, hb1.trans (hb2.mono hb1.size)⟩
 ·have HB := Lib.hid (fun W => both_no (decDigits a) (decDigits b) W (by omega) (by omega) (by omega))
  have hpa : (pcs a).length ≤ 100000 := Nat.le_trans (pcs_le_dec a) ha
  have hpb : (pcs b).length ≤ 100000 := Nat.le_trans (pcs_le_dec b) hb
  have HLA : Box ((pcs a).length ≤ 100000 ∧ (pcs b).length ≤ 100000) := ⟨hpa, hpb⟩
  have HPOS : Box (0 < (pcs a).length ∨ 0 < (pcs b).length) := ⟨by
   rcases Nat.eq_zero_or_pos a with h | h
   ·rcases Nat.eq_zero_or_pos b with h' | h'
    ·subst h h'; exact absurd ⟨by rw [dec_small (by omega)]; simp, by rw [dec_small (by omega)]; simp⟩ h18
    ·right; rw [pcs_pos h']; simp
   ·left; rw [pcs_pos h]; simp⟩
  clear hS ha hb h18 hpa hpb
  generalize decDigits a = la at *
  generalize decDigits b = lb at *
  go_enter Tryz.func188, Tryz.ntmps188
  go_wp2_with fail
  refine (HB.out _).mono ?_
  rintro e w1 ⟨rfl, rfl⟩
  go_wp2_with fail
  refine (HCA.out _).mono ?_
  rintro e w2 ⟨⟨v2, rfl, hv2⟩, hb2⟩
  go_wp2_with fail
  refine (HCB.out _).mono ?_
  rintro e w3 ⟨⟨v3, rfl, hv3⟩, hb3⟩
  have hv2' := own_below hv2 hb3
  have h13 := hb2.trans (hb3.mono hb2.size)
  have hd2 : ∀ g, v2.ownBlock = some g → g < w2.heap.size := fun g hg => (hv2.lt g hg).2
  have hd3 : ∀ g, v3.ownBlock = some g → w2.heap.size ≤ g := fun g hg => (hv3.lt g hg).1
  obtain ⟨A2, c2, rfl, _, _, _⟩ := Row.of_own hv2'
  obtain ⟨A3, c3, rfl, _, _, _⟩ := Row.of_own hv3
  have hb3' := own_base hv3 hb2.size
  have hlen1 := HLA.out
  have hpos := HPOS.out
  generalize hna : (pcs a).length = na at *
  generalize hnb : (pcs b).length = nb at *
  by_cases hlt : na < nb
  ·have HP := Lib.hid hb3'
   have HQ := Lib.hid hv2'
   have HPL := Lib.hid hnb
   have HQL := Lib.hid hna
   have HSUM : SumIs a b b a := Nat.add_comm _ _
   have HDIS : Box (∀ g, (Value.slice A3 nb c3).ownBlock = some g → (Value.slice A2 na c2).ownBlock ≠ some g) := ⟨fun g h1 h2 => by have := hd2 g h2; have := hd3 g h1; omega⟩
   have hlt' : (na : Int) < (nb : Int) := by omega
   clear hna hnb hd2 hd3 hv2 hv3 hv2' hb3' hb2 hb3 HCA HCB HB
   go_upto_region 8 with (at_builtin; refine wpList_append_own_at _ rfl _ _ _ rfl w.heap.size 229 i0 (.int .u64 0) 1 8 Tryz.underlying260 hi0 hz0 hz1 hz2 rfl (by decide) _ _ _ rfl (HP.out.alloc _) ⟨w3.heap.size, 0, Option.none⟩ 1 1 [_] rfl rfl (cell_one_new _ _ _) (by intro u hu; simp at hu; subst hu; rfl) (by unfold maxLen; omega) (by omega) (by have := h13.size; simp; omega) ?_; intro v5 w5 hown5 hg5 _ hat5; obtain ⟨ga, ca, rfl, hga, hgal⟩ := hown5.form (by omega))
   replace hg5 : World.grownBy _ _ (Value.slice A3 nb c3).ownBlock := hg5
   replace hat5 : _ = (Value.slice A3 nb c3).ownBlock ∨ _ := hat5
   have hq5 := (HQ.out.alloc (.cells #[.int .u64 0] 229)).kept hg5 (by
    cases hvq : (Value.slice A2 na c2).ownBlock with
    | none => exact .inl rfl
    | some g => exact .inr (fun h => HDIS.out g h.symm hvq))
   have hb5 : Below w.heap.size w w5 := (h13.alloc h13.size _).grown hg5 (by have := h13.size; simp; omega) (fun k hk => (HP.out.lt k hk).1)
   have hdis5 : (Value.slice A2 na c2).ownBlock ≠ some ga := fun h => by
    rcases hat5 with h5 | h5
    ·exact HDIS.out ga (h5.symm.trans rfl) h
    ·have h6 := (HQ.out.lt ga h).2
     have h7 : ga = (w3.alloc (.cells #[.int .u64 0] 229)).heap.size := by injection h5
     rw [World.size_alloc] at h7
     omega
   have h5' : w5.ownsRow w.heap.size 229 1 (.slice (some ⟨ga, 0, Option.none⟩) (nb + 1) ca) (nb + 1) (us (pcs b ++ [0])) := by rw [us_append]; exact hown5
   have H5 := Lib.hid h5'
   have HQ5 := Lib.hid hq5
   have HD5 : Box ((Value.slice A2 na c2).ownBlock ≠ some ga) := ⟨hdis5⟩
   clear hown5 h5' hq5 hg5 hat5 hdis5 HP HQ HDIS
   go_wp2_with (at_builtin; refine wpList_zeros_own _ rfl _ _ _ _ rfl w.heap.size 229 i0 (.int .u64 0) 8 Tryz.underlying260 Tryz.underlying3 hi0 hz0 hz1 hz2 rfl rfl _ _ _ rfl HQ5.out (nb - na) _ rfl (by omega) (by unfold maxLen; omega) (by omega) hb5.size ?_; intro v6 w6 hown6 hg6 hat6; obtain ⟨gb, cb, rfl, hgb, hgbl⟩ := hown6.form (by omega))
   replace hg6 : World.grownBy _ _ (Value.slice A2 na c2).ownBlock := hg6
   replace hat6 : _ = (Value.slice A2 na c2).ownBlock ∨ _ := hat6
   have hne : gb ≠ ga := fun h => by
    subst h
    rcases hat6 with h6 | h6
    ·exact HD5.out (h6.symm.trans rfl)
    ·have h7 : gb = w5.heap.size := by injection h6
     omega
   have H6 : Hid (w6.ownsRow w.heap.size 229 1 (.slice (some ⟨gb, 0, Option.none⟩) (na + (nb - na)) cb) (na + (nb - na)) (us (pcs a ++ List.replicate (nb - na) 0))) := Lib.hid (by rw [us_append, ← us_zeros]; exact hown6)
   have H56 := Lib.hid (H5.out.kept hg6 (.inr (fun h => HD5.out (h.symm.trans rfl))))
   have hb6 := hb5.grown hg6 hb5.size (fun k hk => (HQ5.out.lt k hk).1)
   have hpx : Pcs (pcs b ++ [0]) := pcs_zeros (pcs_lt b) 1
   have hpy : Pcs (pcs a ++ List.replicate (nb - na) 0) := pcs_zeros (pcs_lt a) _
   clear hown6 hg6 hat6 H5 HQ5 HD5
   refine (back_any w.heap.size ga (nb + 1) ca w.heap.size gb (na + (nb - na)) cb (pcs b ++ [0]) (pcs a ++ List.replicate (nb - na) 0) 0 w6 H56.out H6.out hne hpx hpy (by omega) (by omega)).mono ?_
   rintro e w7 ⟨o, cy, hB, rfl, hrow7, hgr7⟩
   have hlen7 : (pcs a ++ List.replicate (nb - na) 0).length = nb := by rw [List.length_append, List.length_replicate, HQL.out]; omega
   rw [hlen7] at hB
   have hv7 := back_sum HPL.out (by rw [HQL.out]; omega) hB
   rw [show b + a = a + b from HSUM] at hv7
   have hb7 := hb6.grown hgr7 hb6.size (fun k hk => by injection hk with hk; subst hk; exact hga)
   obtain ⟨A7, c7, e7, hc7, hm7, hr7⟩ := Row.of_own hrow7
   injection e7 with e71 _ e73
   subst e71 e73
   have hol : o.length = nb + 1 := by rw [hB.len, List.length_append, HPL.out]; rfl
   have HTR := Lib.hid (trim_any (some ⟨ga, 0, Option.none⟩) (nb + 1) ca w7.heap.size o w7 hr7 hc7 hm7 hB.pcs)
   have hto := trim_take o hB.pcs
   have hown7 := own_take hrow7 (k := (pcs (pv o)).length) (by rw [← hol]; exact hto.1)
   rw [← us_take, hto.2] at hown7
   rw [hv7] at hown7 HTR hto
   have HO7 := Lib.hid hown7
   have HL7 : Box ((pcs (a + b)).length ≤ 1000000) := ⟨by have := hto.1; omega⟩
   clear hB hrow7 hgr7 hlen7 hv7 hr7 hc7 hm7 hto hown7 hol hpx hpy H6 H56
   go_wp2_with fail
   refine HTR.out.mono ?_
   rintro e w8 ⟨rfl, rfl⟩
   go_wp2_with fail
   refine (text_own _ _ (a + b) w7 HO7.out HL7.out).mono ?_
   rintro e w9 ⟨rfl, hb9⟩
   go_wp2_with fail
   go_ret
   exact ⟨rfl, hb7.trans (hb9.mono hb7.size)⟩
  ·have HP := Lib.hid hv2'
   have HQ := Lib.hid hb3'
   have HPL := Lib.hid hna
   have HQL := Lib.hid hnb
   have HSUM : SumIs a b a b := rfl
   have HDIS : Box (∀ g, (Value.slice A2 na c2).ownBlock = some g → (Value.slice A3 nb c3).ownBlock ≠ some g) := ⟨fun g h1 h2 => by have := hd2 g h1; have := hd3 g h2; omega⟩
   have hlt' : ¬ (na : Int) < (nb : Int) := by omega
   clear hna hnb hd2 hd3 hv2 hv3 hv2' hb3' hb2 hb3 HCA HCB HB
   go_upto_region 8 with (at_builtin; refine wpList_append_own_at _ rfl _ _ _ rfl w.heap.size 229 i0 (.int .u64 0) 1 8 Tryz.underlying260 hi0 hz0 hz1 hz2 rfl (by decide) _ _ _ rfl (HP.out.alloc _) ⟨w3.heap.size, 0, Option.none⟩ 1 1 [_] rfl rfl (cell_one_new _ _ _) (by intro u hu; simp at hu; subst hu; rfl) (by unfold maxLen; omega) (by omega) (by have := h13.size; simp; omega) ?_; intro v5 w5 hown5 hg5 _ hat5; obtain ⟨ga, ca, rfl, hga, hgal⟩ := hown5.form (by omega))
   replace hg5 : World.grownBy _ _ (Value.slice A2 na c2).ownBlock := hg5
   replace hat5 : _ = (Value.slice A2 na c2).ownBlock ∨ _ := hat5
   have hq5 := (HQ.out.alloc (.cells #[.int .u64 0] 229)).kept hg5 (by
    cases hvq : (Value.slice A3 nb c3).ownBlock with
    | none => exact .inl rfl
    | some g => exact .inr (fun h => HDIS.out g h.symm hvq))
   have hb5 : Below w.heap.size w w5 := (h13.alloc h13.size _).grown hg5 (by have := h13.size; simp; omega) (fun k hk => (HP.out.lt k hk).1)
   have hdis5 : (Value.slice A3 nb c3).ownBlock ≠ some ga := fun h => by
    rcases hat5 with h5 | h5
    ·exact HDIS.out ga (h5.symm.trans rfl) h
    ·have h6 := (HQ.out.lt ga h).2
     have h7 : ga = (w3.alloc (.cells #[.int .u64 0] 229)).heap.size := by injection h5
     rw [World.size_alloc] at h7
     omega
   have h5' : w5.ownsRow w.heap.size 229 1 (.slice (some ⟨ga, 0, Option.none⟩) (na + 1) ca) (na + 1) (us (pcs a ++ [0])) := by rw [us_append]; exact hown5
   have H5 := Lib.hid h5'
   have HQ5 := Lib.hid hq5
   have HD5 : Box ((Value.slice A3 nb c3).ownBlock ≠ some ga) := ⟨hdis5⟩
   clear hown5 h5' hq5 hg5 hat5 hdis5 HP HQ HDIS
   go_wp2_with (at_builtin; refine wpList_zeros_own _ rfl _ _ _ _ rfl w.heap.size 229 i0 (.int .u64 0) 8 Tryz.underlying260 Tryz.underlying3 hi0 hz0 hz1 hz2 rfl rfl _ _ _ rfl HQ5.out (na - nb) _ rfl (by omega) (by unfold maxLen; omega) (by omega) hb5.size ?_; intro v6 w6 hown6 hg6 hat6; obtain ⟨gb, cb, rfl, hgb, hgbl⟩ := hown6.form (by omega))
   replace hg6 : World.grownBy _ _ (Value.slice A3 nb c3).ownBlock := hg6
   replace hat6 : _ = (Value.slice A3 nb c3).ownBlock ∨ _ := hat6
   have hne : gb ≠ ga := fun h => by
    subst h
    rcases hat6 with h6 | h6
    ·exact HD5.out (h6.symm.trans rfl)
    ·have h7 : gb = w5.heap.size := by injection h6
     omega
   have H6 : Hid (w6.ownsRow w.heap.size 229 1 (.slice (some ⟨gb, 0, Option.none⟩) (nb + (na - nb)) cb) (nb + (na - nb)) (us (pcs b ++ List.replicate (na - nb) 0))) := Lib.hid (by rw [us_append, ← us_zeros]; exact hown6)
   have H56 := Lib.hid (H5.out.kept hg6 (.inr (fun h => HD5.out (h.symm.trans rfl))))
   have hb6 := hb5.grown hg6 hb5.size (fun k hk => (HQ5.out.lt k hk).1)
   have hpx : Pcs (pcs a ++ [0]) := pcs_zeros (pcs_lt a) 1
   have hpy : Pcs (pcs b ++ List.replicate (na - nb) 0) := pcs_zeros (pcs_lt b) _
   clear hown6 hg6 hat6 H5 HQ5 HD5
   refine (back_any w.heap.size ga (na + 1) ca w.heap.size gb (nb + (na - nb)) cb (pcs a ++ [0]) (pcs b ++ List.replicate (na - nb) 0) 0 w6 H56.out H6.out hne hpx hpy (by omega) (by omega)).mono ?_
   rintro e w7 ⟨o, cy, hB, rfl, hrow7, hgr7⟩
   have hlen7 : (pcs b ++ List.replicate (na - nb) 0).length = na := by rw [List.length_append, List.length_replicate, HQL.out]; omega
   rw [hlen7] at hB
   have hv7 := back_sum HPL.out (by rw [HQL.out]; omega) hB
   rw [show a + b = a + b from HSUM] at hv7
   have hb7 := hb6.grown hgr7 hb6.size (fun k hk => by injection hk with hk; subst hk; exact hga)
   obtain ⟨A7, c7, e7, hc7, hm7, hr7⟩ := Row.of_own hrow7
   injection e7 with e71 _ e73
   subst e71 e73
   have hol : o.length = na + 1 := by rw [hB.len, List.length_append, HPL.out]; rfl
   have HTR := Lib.hid (trim_any (some ⟨ga, 0, Option.none⟩) (na + 1) ca w7.heap.size o w7 hr7 hc7 hm7 hB.pcs)
   have hto := trim_take o hB.pcs
   have hown7 := own_take hrow7 (k := (pcs (pv o)).length) (by rw [← hol]; exact hto.1)
   rw [← us_take, hto.2] at hown7
   rw [hv7] at hown7 HTR hto
   have HO7 := Lib.hid hown7
   have HL7 : Box ((pcs (a + b)).length ≤ 1000000) := ⟨by have := hto.1; omega⟩
   clear hB hrow7 hgr7 hlen7 hv7 hr7 hc7 hm7 hto hown7 hol hpx hpy H6 H56
   go_wp2_with fail
   refine HTR.out.mono ?_
   rintro e w8 ⟨rfl, rfl⟩
   go_wp2_with fail
   refine (text_own _ _ (a + b) w7 HO7.out HL7.out).mono ?_
   rintro e w9 ⟨rfl, hb9⟩
   go_wp2_with fail
   go_ret
   exact ⟨rfl, hb7.trans (hb9.mono hb7.size)⟩
theorem take_diff {X Y n bo m : Nat} {o : List Nat} (hX : (pcs X).length = n) (hY : (pcs Y).length + m = n) (hle : Y ≤ X) (h : TakeAt (pcs X ++ [0]) (pcs Y ++ List.replicate m 0) 1 0 (n + 1) 0 bo o) : pv o = X - Y := by
 have e := h.val
 rw [List.take_of_length_le (by rw [List.length_append, List.length_replicate]; omega), pv_pad, pv_pcs, pv_append, pv_pcs] at e
 simp only [pv, Nat.pow_zero, Nat.one_mul, Nat.mul_zero, Nat.add_zero, Nat.zero_add] at e
 have hl := pv_lt o h.pcs
 rw [h.len, List.length_append, hX] at hl
 simp only [List.length_singleton] at hl
 rcases (show bo = 0 ∨ bo = 1 by have := h.bol; omega) with rfl | rfl
 ·omega
 ·omega
set_option maxRecDepth 100000 in
set_option maxHeartbeats 2000000 in
theorem decSub_any (a b : Nat) (w : World) (hS : Std w) (ha : (decDigits a).length ≤ 100000) (hb : (decDigits b).length ≤ 100000) (hba : b ≤ a) :
  Calls Tryz.prog 189 #[.string ⟨(decDigits a).toArray⟩, .string ⟨(decDigits b).toArray⟩] w fun e w' => e = .returned (.tuple #[.string ⟨(decDigits (a - b)).toArray⟩, .int .i64 0]) ∧ Below w.heap.size w w' := by
 obtain ⟨i0, hi0, hz0, hz1, hz2⟩ := info_parts Tryz.info_u64
 have HS := Lib.hid hS
 have HCA := Lib.hid (fun W => cut_dec a W (by omega))
 have HCB := Lib.hid (fun W => cut_dec b W (by omega))
 have HCM := Lib.hid (compare_any a b w (by omega) (by omega))
 have hcm : decide (cmpN a b < 0) = false := by unfold cmpN; rw [if_neg (by omega)]; split <;> decide
 generalize cmpN a b = cc at *
 by_cases h18 : (decDigits a).length ≤ 18 ∧ (decDigits b).length ≤ 18
 ·have HB := Lib.hid (fun W => both_yes a b W h18.1 h18.2)
  have ha2 := len18 h18.1
  have hb2 := len18 h18.2
  have HO := Lib.hid (fun W (hW : Std W) => decOf_any (a - b) W (by omega) hW)
  have h1 : (a : Int) ≤ 999999999999999999 := by omega
  have h2 : (b : Int) ≤ (a : Int) := by omega
  have HAD : Box ((a : Int) - (b : Int) = ((a - b : Nat) : Int)) := ⟨by omega⟩
  clear hS ha hb h18 ha2 hb2 hba
  generalize decDigits a = la at *
  generalize decDigits b = lb at *
  go_enter Tryz.func189, Tryz.ntmps189
  go_wp2_with fail
  refine HCM.out.mono ?_
  rintro e w0 ⟨rfl, rfl⟩
  go_wp2_with fail
  refine (HB.out _).mono ?_
  rintro e w1 ⟨rfl, hb1⟩
  go_wp2_with fail
  rw [HAD.out]
  refine (HO.out _ (HS.out.below hb1 (Nat.le_refl _))).mono ?_
  rintro e w2 ⟨rfl, hb2⟩
  go_wp2_with fail
  go_ret2
  exact ⟨rfl, hb1.trans (hb2.mono hb1.size)⟩
 ·have HB := Lib.hid (fun W => both_no (decDigits a) (decDigits b) W (by omega) (by omega) (by omega))
  have hpa : (pcs a).length ≤ 100000 := Nat.le_trans (pcs_le_dec a) ha
  have hpl : (pcs b).length ≤ (pcs a).length := pcs_len_mono hba
  have HPOS : Box (0 < (pcs a).length) := ⟨by
   rcases Nat.eq_zero_or_pos a with h | h
   ·exfalso
    have h' : b = 0 := by omega
    subst h h'; exact absurd ⟨by rw [dec_small (by omega)]; simp, by rw [dec_small (by omega)]; simp⟩ h18
   ·rw [pcs_pos h]; simp⟩
  have HBA : Box (b ≤ a) := ⟨hba⟩
  clear hS ha hb h18 hba
  generalize decDigits a = la at *
  generalize decDigits b = lb at *
  have hpos := HPOS.out
  generalize hna : (pcs a).length = na at *
  generalize hnb : (pcs b).length = nb at *
  have HPL := Lib.hid hna
  have HQL := Lib.hid hnb
  go_enter Tryz.func189, Tryz.ntmps189
  go_wp2_with fail
  refine HCM.out.mono ?_
  rintro e w0 ⟨rfl, rfl⟩
  go_wp2_with fail
  refine (HB.out _).mono ?_
  rintro e w1 ⟨rfl, rfl⟩
  go_wp2_with fail
  refine (HCA.out _).mono ?_
  rintro e w2 ⟨⟨v2, rfl, hv2⟩, hb2⟩
  have hv2' : w2.ownsRow w.heap.size 229 1 v2 na (us (pcs a)) := by rw [← hna]; exact hv2
  have HP := Lib.hid hv2'
  clear hv2 hv2' hna hnb
  go_upto_region 7 with (at_builtin; refine wpList_append_own_at _ rfl _ _ _ rfl w.heap.size 229 i0 (.int .u64 0) 1 8 Tryz.underlying260 hi0 hz0 hz1 hz2 rfl (by decide) _ _ _ rfl (HP.out.alloc _) ⟨w2.heap.size, 0, Option.none⟩ 1 1 [_] rfl rfl (cell_one_new _ _ _) (by intro u hu; simp at hu; subst hu; rfl) (by unfold maxLen; omega) (by omega) (by have := hb2.size; simp; omega) ?_; intro v5 w5 hown5 hg5 _ hat5; obtain ⟨ga, ca, rfl, hga, hgal⟩ := hown5.form (by omega))
  replace hg5 : World.grownBy _ _ v2.ownBlock := hg5
  have hb5 : Below w.heap.size w w5 := (hb2.alloc hb2.size _).grown hg5 (by have := hb2.size; simp; omega) (fun k hk => (HP.out.lt k hk).1)
  have h5' : w5.ownsRow w.heap.size 229 1 (.slice (some ⟨ga, 0, Option.none⟩) (na + 1) ca) (na + 1) (us (pcs a ++ [0])) := by rw [us_append]; exact hown5
  have H5 := Lib.hid h5'
  clear hown5 h5' hg5 hat5 HP hb2
  go_wp2_with fail
  refine (HCB.out _).mono ?_
  rintro e w3 ⟨⟨v3, rfl, hv3⟩, hb3⟩
  have hv3' : w3.ownsRow w5.heap.size 229 1 v3 nb (us (pcs b)) := by rw [← HQL.out]; exact hv3
  have hd3 : ∀ g, v3.ownBlock = some g → w5.heap.size ≤ g ∧ g < w3.heap.size := fun g hg => hv3'.lt g hg
  replace H5 := Lib.hid (own_below H5.out hb3)
  have HQ := Lib.hid (own_base hv3' hb5.size)
  have hb53 := hb5.trans (hb3.mono hb5.size)
  have HD3 : Box (∀ g, v3.ownBlock = some g → w5.heap.size ≤ g ∧ g < w3.heap.size) := ⟨hd3⟩
  have hs35 := hb3.size
  clear hv3 hv3' hb3 hd3 hb5
  go_wp2_with fail
  refine (HCB.out _).mono ?_
  rintro e w4 ⟨⟨v4, rfl, hv4⟩, hb4⟩
  obtain ⟨A4, c4, rfl, _, _, _⟩ := Row.of_own hv4
  rw [HQL.out]
  replace H5 := Lib.hid (own_below H5.out hb4)
  replace HQ := Lib.hid (own_below HQ.out hb4)
  have hb54 := hb53.trans (hb4.mono hb53.size)
  have hs34 := hb4.size
  obtain ⟨A3, c3, rfl, _, _, _⟩ := Row.of_own HQ.out
  clear hv4 hb4 hb53
  go_wp2_with (at_builtin; refine wpList_zeros_own _ rfl _ _ _ _ rfl w.heap.size 229 i0 (.int .u64 0) 8 Tryz.underlying260 Tryz.underlying3 hi0 hz0 hz1 hz2 rfl rfl _ _ _ rfl HQ.out (na - nb) _ rfl (by omega) (by unfold maxLen; omega) (by omega) hb54.size ?_; intro v6 w6 hown6 hg6 hat6; obtain ⟨gb, cb, rfl, hgb, hgbl⟩ := hown6.form (by omega))
  replace hg6 : World.grownBy _ _ (Value.slice A3 nb c3).ownBlock := hg6
  replace hat6 : _ = (Value.slice A3 nb c3).ownBlock ∨ _ := hat6
  have hne : gb ≠ ga := fun h => by
   subst h
   rcases hat6 with h6 | h6
   ·have := HD3.out gb (h6.symm.trans rfl)
    omega
   ·have h7 : gb = w4.heap.size := by injection h6
    omega
  have H6 : Hid (w6.ownsRow w.heap.size 229 1 (.slice (some ⟨gb, 0, Option.none⟩) na cb) na (us (pcs b ++ List.replicate (na - nb) 0))) := Lib.hid (by rw [us_append, ← us_zeros]; have h := hown6; rwa [show nb + (na - nb) = na by omega] at h)
  have H56 := Lib.hid (H5.out.kept hg6 (.inr (fun h => by have := HD3.out ga (h.symm.trans rfl); omega)))
  have hb6 := hb54.grown hg6 hb54.size (fun k hk => (HQ.out.lt k hk).1)
  have hpx : Pcs (pcs a ++ [0]) := pcs_zeros (pcs_lt a) 1
  have hpy : Pcs (pcs b ++ List.replicate (na - nb) 0) := pcs_zeros (pcs_lt b) _
  clear hown6 hg6 hat6 H5 HQ HD3
  refine (take_any w.heap.size ga (na + 1) ca w.heap.size gb na cb (pcs a ++ [0]) (pcs b ++ List.replicate (na - nb) 0) 1 0 w6 H56.out H6.out hne hpx hpy (by omega) (by omega) (by omega)).mono ?_
  rintro e w7 ⟨o, bo, hB, rfl, hrow7, hgr7⟩
  have hlen7 : (pcs b ++ List.replicate (na - nb) 0).length = na := by rw [List.length_append, List.length_replicate, HQL.out]; omega
  rw [hlen7] at hB
  have hv7 := take_diff HPL.out (by rw [HQL.out]; omega) HBA.out hB
  have hb7 := hb6.grown hgr7 hb6.size (fun k hk => by injection hk with hk; subst hk; exact hga)
  obtain ⟨A7, c7, e7, hc7, hm7, hr7⟩ := Row.of_own hrow7
  injection e7 with e71 _ e73
  subst e71 e73
  have hol : o.length = na + 1 := by rw [hB.len, List.length_append, HPL.out]; rfl
  have HTR := Lib.hid (trim_any (some ⟨ga, 0, Option.none⟩) (na + 1) ca w7.heap.size o w7 hr7 hc7 hm7 hB.pcs)
  have hto := trim_take o hB.pcs
  have hown7 := own_take hrow7 (k := (pcs (pv o)).length) (by rw [← hol]; exact hto.1)
  rw [← us_take, hto.2] at hown7
  rw [hv7] at hown7 HTR hto
  have HO7 := Lib.hid hown7
  have HL7 : Box ((pcs (a - b)).length ≤ 1000000) := ⟨by have := hto.1; omega⟩
  clear hB hrow7 hgr7 hlen7 hv7 hr7 hc7 hm7 hto hown7 hol hpx hpy H6 H56
  go_wp2_with fail
  refine HTR.out.mono ?_
  rintro e w8 ⟨rfl, rfl⟩
  go_wp2_with fail
  refine (text_own _ _ (a - b) w7 HO7.out HL7.out).mono ?_
  rintro e w9 ⟨rfl, hb9⟩
  go_wp2_with fail
  go_ret2
  exact ⟨rfl, hb7.trans (hb9.mono hb7.size)⟩
theorem natAbs_len (z : Int) : (decDigits z.natAbs).length ≤ (itoa z).length := by
 rcases itoa_cases z with ⟨_, e⟩ | ⟨_, e⟩
 ·rw [e]; simp
 ·rw [e]; exact Nat.le_refl _
theorem signed_true (n : Nat) : signed true n = -(n : Int) := rfl
theorem signed_false (n : Nat) : signed false n = (n : Int) := rfl
theorem small_mul {x y : Int} (hx : (itoa x).length ≤ 9) (hy : (itoa y).length ≤ 9) : -1000000000000000000 ≤ x * y ∧ x * y ≤ 1000000000000000000 := by
 have h1 := itoa_len_lt hx
 have h2 := itoa_len_lt hy
 have h3 : (x * y).natAbs ≤ 1000000000 * 1000000000 := by rw [Int.natAbs_mul]; exact Nat.mul_le_mul (by omega) (by omega)
 omega
set_option maxHeartbeats 400000 in
theorem whNeg_any (x : Int) (w : World) (hx : (itoa x).length ≤ 100000) :
  Calls Tryz.prog 180 #[.string ⟨(itoa x).toArray⟩] w fun e w' => e = .returned (.string ⟨(itoa (-x)).toArray⟩) ∧ Below w.heap.size w w' := by
 have hnx := natAbs_len x
 have HSX := Lib.hid (split_any x w hx)
 have HJ := Lib.hid (fun W => join_any (!decide (x < 0)) x.natAbs W (by omega))
 rw [show signed (!decide (x < 0)) x.natAbs = -x by
  by_cases h : x < 0
  ·rw [decide_eq_true h, Bool.not_true, signed_false]; omega
  ·rw [decide_eq_false h, Bool.not_false, signed_true]; omega] at HJ
 clear hnx
 generalize decide (x < 0) = bx at *
 generalize decDigits x.natAbs = dx at *
 generalize itoa x = lx at *
 go_enter Tryz.func180, Tryz.ntmps180
 go_wp2_with fail
 refine HSX.out.mono ?_
 rintro e w1 ⟨rfl, hb1⟩
 go_wp2_with fail
 refine (HJ.out _).mono ?_
 rintro e w2 ⟨rfl, rfl⟩
 go_wp2_with fail
 go_ret
 exact ⟨rfl, hb1⟩
theorem signed_same {x y : Int} (h : decide (x < 0) = decide (y < 0)) : signed (decide (x < 0)) (x.natAbs + y.natAbs) = x + y := by
 by_cases hx : x < 0
 ·have hy : y < 0 := by rw [decide_eq_true hx] at h; simpa using h.symm
  rw [decide_eq_true hx, signed_true]; omega
 ·have hy : ¬ y < 0 := by rw [decide_eq_false hx] at h; simpa using h.symm
  rw [decide_eq_false hx, signed_false]; omega
theorem signed_diff {x y : Int} (h : decide (x < 0) ≠ decide (y < 0)) (hle : y.natAbs ≤ x.natAbs) : signed (decide (x < 0)) (x.natAbs - y.natAbs) = x + y := by
 by_cases hx : x < 0
 ·have hy : ¬ y < 0 := fun hy => h (by rw [decide_eq_true hx, decide_eq_true hy])
  rw [decide_eq_true hx, signed_true]; omega
 ·have hy : y < 0 := by
   rcases Int.lt_or_le y 0 with hy | hy
   ·exact hy
   ·exact absurd (by rw [decide_eq_false hx, decide_eq_false (by omega)]) h
  rw [decide_eq_false hx, signed_false]; omega
theorem beq_bool_true {a b : Bool} (h : a = b) : (a == b) = true := by rw [h]; simp
theorem beq_bool_false {a b : Bool} (h : a ≠ b) : (a == b) = false := by simpa using h
set_option maxRecDepth 100000 in
set_option maxHeartbeats 1000000 in
theorem whAdd_any (x y : Int) (w : World) (hS : Std w) (hx : (itoa x).length ≤ 50000) (hy : (itoa y).length ≤ 50000) :
  Calls Tryz.prog 143 #[.string ⟨(itoa x).toArray⟩, .string ⟨(itoa y).toArray⟩] w fun e w' => e = .returned (.string ⟨(itoa (x + y)).toArray⟩) ∧ Below w.heap.size w w' := by
 have HS := Lib.hid hS
 by_cases hb9 : (itoa x).length ≤ 18 ∧ (itoa y).length ≤ 18
 ·have h1 := itoa_len_lt hb9.1
  have h2 := itoa_len_lt hb9.2
  have hx1 : -1000000000000000000 ≤ x ∧ x ≤ 1000000000000000000 := by omega
  have hy1 : -1000000000000000000 ≤ y ∧ y ≤ 1000000000000000000 := by omega
  have HX := Lib.hid (little_yes x 18 w hb9.1 (by omega))
  have HY := Lib.hid (fun W => little_yes y 18 W hb9.2 (by omega))
  have HO := Lib.hid (fun W (hW : Std W) => whOf_any (x + y) W (by omega) (by omega) hW)
  clear hS hx hy hb9 h1 h2
  generalize itoa x = lx at *
  generalize itoa y = ly at *
  go_enter Tryz.func143, Tryz.ntmps143
  go_wp2_with fail
  refine HX.out.mono ?_
  rintro e w1 ⟨rfl, hb1⟩
  go_wp2_with fail
  refine (HY.out _).mono ?_
  rintro e w2 ⟨rfl, hb2⟩
  go_wp2_with fail
  have h12 := hb1.trans (hb2.mono hb1.size)
  refine (HO.out _ (HS.out.below h12 (Nat.le_refl _))).mono ?_
  rintro e w3 ⟨rfl, hb3⟩
  go_wp2_with fail
  go_ret
  exact ⟨rfl, h12.trans (hb3.mono h12.size)⟩
 ·have hnx := natAbs_len x
  have hny := natAbs_len y
  have HSX := Lib.hid (fun W => split_any x W (by omega))
  have HSY := Lib.hid (fun W => split_any y W (by omega))
  have HNX := Lib.hid (fun W (h : 18 < (itoa x).length) => little_no (itoa x) 18 W h (by omega))
  have HNY := Lib.hid (fun W (h : 18 < (itoa y).length) => little_no (itoa y) 18 W h (by omega))
  have HYX := Lib.hid (fun W (h : (itoa x).length ≤ 18) => little_yes x 18 W h (by omega))
  have HCM := Lib.hid (fun W => compare_any x.natAbs y.natAbs W (by omega) (by omega))
  have HAD := Lib.hid (fun W hW => decAdd_any x.natAbs y.natAbs W hW (by omega) (by omega))
  have HS1 := Lib.hid (fun W hW => decSub_any x.natAbs y.natAbs W hW (by omega) (by omega))
  have HS2 := Lib.hid (fun W hW => decSub_any y.natAbs x.natAbs W hW (by omega) (by omega))
  have hl1 : (decDigits (x.natAbs + y.natAbs)).length ≤ 100000 := by
   have h := dec_mul_len 2 (max x.natAbs y.natAbs)
   have h3 : x.natAbs + y.natAbs ≤ 2 * max x.natAbs y.natAbs := by omega
   have h4 : (decDigits (max x.natAbs y.natAbs)).length ≤ 50000 := by
    rcases Nat.le_total x.natAbs y.natAbs with h | h
    ·rw [Nat.max_eq_right h]; omega
    ·rw [Nat.max_eq_left h]; omega
   have h5 : (decDigits 2).length = 1 := by rw [dec_small (by omega)]; rfl
   have h6 := nDigits_mono h3
   rw [← dec_length, ← dec_length] at h6
   omega
  have hl2 : (decDigits (x.natAbs - y.natAbs)).length ≤ 100000 := by
   have h6 := nDigits_mono (Nat.sub_le x.natAbs y.natAbs)
   rw [← dec_length, ← dec_length] at h6
   omega
  have hl3 : (decDigits (y.natAbs - x.natAbs)).length ≤ 100000 := by
   have h6 := nDigits_mono (Nat.sub_le y.natAbs x.natAbs)
   rw [← dec_length, ← dec_length] at h6
   omega
  have HJ1 := Lib.hid (fun W => join_any (decide (x < 0)) (x.natAbs + y.natAbs) W hl1)
  have HJ2 := Lib.hid (fun W => join_any (decide (x < 0)) (x.natAbs - y.natAbs) W hl2)
  have HJ3 := Lib.hid (fun W => join_any (decide (y < 0)) (y.natAbs - x.natAbs) W hl3)
  have E1 : Box (decide (x < 0) = decide (y < 0) → signed (decide (x < 0)) (x.natAbs + y.natAbs) = x + y) := ⟨signed_same⟩
  have E2 : Box (decide (x < 0) ≠ decide (y < 0) → y.natAbs ≤ x.natAbs → signed (decide (x < 0)) (x.natAbs - y.natAbs) = x + y) := ⟨signed_diff⟩
  have E3 : Box (decide (x < 0) ≠ decide (y < 0) → x.natAbs ≤ y.natAbs → signed (decide (y < 0)) (y.natAbs - x.natAbs) = x + y) := ⟨fun h1 h2 => by rw [signed_diff (Ne.symm h1) h2]; omega⟩
  clear hS hnx hny hl1 hl2 hl3
  generalize decide (x < 0) = bx at *
  generalize decide (y < 0) = by' at *
  generalize x.natAbs = nx at *
  generalize y.natAbs = ny at *
  generalize itoa x = lx at *
  generalize itoa y = ly at *
  by_cases hx9 : lx.length ≤ 18
  case' pos =>
   go_enter Tryz.func143, Tryz.ntmps143
   go_wp2_with fail
   refine (HYX.out _ hx9).mono ?_
   rintro e w1 ⟨rfl, hbw⟩
   go_wp2_with fail
   refine (HNY.out _ (by omega)).mono ?_
   rintro e w2 ⟨rfl, rfl⟩
  case' neg =>
   go_enter Tryz.func143, Tryz.ntmps143
   go_wp2_with fail
   refine (HNX.out _ (by omega)).mono ?_
   rintro e w1 ⟨rfl, rfl⟩
   have hbw := Below.refl w.heap.size w
  all_goals
   replace HS := Lib.hid (HS.out.below hbw (Nat.le_refl _))
   go_wp2_with fail
   refine (HSX.out _).mono ?_
   rintro e wk5 ⟨rfl, hbk⟩
   replace HS := Lib.hid (HS.out.below hbk (Nat.le_refl _))
   replace hbw := hbw.trans (hbk.mono hbw.size)
   clear hbk
   go_wp2_with fail
   refine (HSY.out _).mono ?_
   rintro e wk6 ⟨rfl, hbk⟩
   replace HS := Lib.hid (HS.out.below hbk (Nat.le_refl _))
   replace hbw := hbw.trans (hbk.mono hbw.size)
   clear hbk
   by_cases hsame : bx = by'
   ·have hbb := beq_bool_true hsame
    have HE := E1.out hsame
    have HEE : Box (signed bx (nx + ny) = x + y) := ⟨HE⟩
    clear hsame HE
    go_wp2_with fail
    refine (HAD.out _ HS.out).mono ?_
    rintro e wk7 ⟨rfl, hbk⟩
    replace HS := Lib.hid (HS.out.below hbk (Nat.le_refl _))
    replace hbw := hbw.trans (hbk.mono hbw.size)
    clear hbk
    go_wp2_with fail
    refine (HJ1.out _).mono ?_
    rintro e wk8 ⟨rfl, rfl⟩
    go_wp2_with fail
    go_ret
    exact ⟨ret_str (by rw [HEE.out]), hbw⟩
   ·have hbb := beq_bool_false hsame
    by_cases hlt : nx < ny
    ·have HEE : Box (signed by' (ny - nx) = x + y) := ⟨E3.out hsame (by omega)⟩
     have hc : cmpN nx ny = -1 := by unfold cmpN; rw [if_pos hlt]
     rw [hc] at HCM
     clear hsame hc
     go_wp2_with fail
     refine (HCM.out _).mono ?_
     rintro e wk9 ⟨rfl, rfl⟩
     go_wp2_with fail
     refine (HS2.out _ HS.out (by omega)).mono ?_
     rintro e wk10 ⟨rfl, hbk⟩
     replace HS := Lib.hid (HS.out.below hbk (Nat.le_refl _))
     replace hbw := hbw.trans (hbk.mono hbw.size)
     clear hbk
     go_wp2_with fail
     refine (HJ3.out _).mono ?_
     rintro e wk11 ⟨rfl, rfl⟩
     go_wp2_with fail
     go_ret
     exact ⟨ret_str (by rw [HEE.out]), hbw⟩
    ·have HEE : Box (signed bx (nx - ny) = x + y) := ⟨E2.out hsame (by omega)⟩
     have hc : decide (cmpN nx ny < 0) = false := by unfold cmpN; rw [if_neg hlt]; split <;> decide
     generalize cmpN nx ny = cc at *
     clear hsame
     go_wp2_with fail
     refine (HCM.out _).mono ?_
     rintro e wk12 ⟨rfl, rfl⟩
     go_wp2_with fail
     refine (HS1.out _ HS.out (by omega)).mono ?_
     rintro e wk13 ⟨rfl, hbk⟩
     replace HS := Lib.hid (HS.out.below hbk (Nat.le_refl _))
     replace hbw := hbw.trans (hbk.mono hbw.size)
     clear hbk
     go_wp2_with fail
     refine (HJ2.out _).mono ?_
     rintro e wk14 ⟨rfl, rfl⟩
     go_wp2_with fail
     go_ret
     exact ⟨ret_str (by rw [HEE.out]), hbw⟩
def cmpZ (x y : Int) : Int := if x < y then -1 else if x = y then 0 else 1
theorem cmpZ_pos {x y : Int} (hx : ¬ x < 0) (hy : ¬ y < 0) : cmpZ x y = cmpN x.natAbs y.natAbs := by
 unfold cmpZ cmpN
 repeat' split
 all_goals omega
theorem cmpZ_nat (a b : Nat) : cmpZ (a : Int) (b : Int) = cmpN a b := by
 rw [cmpZ_pos (by omega) (by omega)]; rfl
set_option maxRecDepth 100000 in
set_option maxHeartbeats 1000000 in
theorem whGcd_any (x y : Int) (w : World) (hS : Std w) (hx : (itoa x).length ≤ 100000) (hy : (itoa y).length ≤ 100000) :
  Calls Tryz.prog 96 #[.string ⟨(itoa x).toArray⟩, .string ⟨(itoa y).toArray⟩] w fun e w' => e = .returned (.string ⟨(decDigits (Nat.gcd x.natAbs y.natAbs)).toArray⟩) ∧ Below w.heap.size w w' := by
 by_cases h18 : (decDigits x.natAbs).length ≤ 18 ∧ (decDigits y.natAbs).length ≤ 18
 ·exact whGcd_small x y w hS h18.1 h18.2
 ·have hnx := natAbs_len x
  have hny := natAbs_len y
  have HS := Lib.hid hS
  have HX := Lib.hid (whAbs_any x w hx)
  have HY := Lib.hid (fun W => whAbs_any y W hy)
  have HNX := Lib.hid (fun W (h : 18 < (decDigits x.natAbs).length) => little_no (decDigits x.natAbs) 18 W h (by omega))
  have HNY := Lib.hid (fun W (h : 18 < (decDigits y.natAbs).length) => little_no (decDigits y.natAbs) 18 W h (by omega))
  have HYX := Lib.hid (fun W (h : (decDigits x.natAbs).length ≤ 18) => little_nat x.natAbs 18 W h (Nat.le_refl _))
  have HG := Lib.hid (fun W hW => decGcd_any x.natAbs y.natAbs W hW (by omega) (by omega))
  clear hS hnx hny hx hy
  generalize itoa x = lx at *
  generalize itoa y = ly at *
  generalize x.natAbs = nx at *
  generalize y.natAbs = ny at *
  generalize decDigits nx = dx at *
  generalize decDigits ny = dy at *
  go_enter Tryz.func96, Tryz.ntmps96
  go_wp2_with fail
  refine HX.out.mono ?_
  rintro e w1 ⟨rfl, hbw⟩
  replace HS := Lib.hid (HS.out.below hbw (Nat.le_refl _))
  go_wp2_with fail
  refine (HY.out _).mono ?_
  rintro e wk11 ⟨rfl, hbk⟩
  replace HS := Lib.hid (HS.out.below hbk (Nat.le_refl _))
  replace hbw := hbw.trans (hbk.mono hbw.size)
  clear hbk
  by_cases hx9 : dx.length ≤ 18
  ·have tok := True.intro
   clear tok
   go_wp2_with fail
   refine (HYX.out _ hx9).mono ?_
   rintro e wk12 ⟨rfl, hbk⟩
   replace HS := Lib.hid (HS.out.below hbk (Nat.le_refl _))
   replace hbw := hbw.trans (hbk.mono hbw.size)
   clear hbk
   go_wp2_with fail
   refine (HNY.out _ (by omega)).mono ?_
   rintro e wk13 ⟨rfl, rfl⟩
   go_wp2_with fail
   refine (HG.out _ HS.out).mono ?_
   rintro e wk14 ⟨rfl, hbk⟩
   replace HS := Lib.hid (HS.out.below hbk (Nat.le_refl _))
   replace hbw := hbw.trans (hbk.mono hbw.size)
   clear hbk
   go_wp2_with fail
   go_ret
   exact ⟨rfl, hbw⟩
  ·have tok := True.intro
   clear tok
   go_wp2_with fail
   refine (HNX.out _ (by omega)).mono ?_
   rintro e wk15 ⟨rfl, rfl⟩
   go_wp2_with fail
   refine (HG.out _ HS.out).mono ?_
   rintro e wk16 ⟨rfl, hbk⟩
   replace HS := Lib.hid (HS.out.below hbk (Nat.le_refl _))
   replace hbw := hbw.trans (hbk.mono hbw.size)
   clear hbk
   go_wp2_with fail
   go_ret
   exact ⟨rfl, hbw⟩
theorem div_unique {x : Int} {y : Nat} (hy : 0 < y) {q r : Int} (e : r + (y : Int) * q = x) (h0 : 0 ≤ r) (h1 : r < (y : Int)) : x / (y : Int) = q ∧ x % (y : Int) = r :=
 (Int.ediv_emod_unique (by omega)).2 ⟨e, h0, h1⟩
theorem neg_div_zero {x : Int} {y : Nat} (hy : 0 < y) (hx : x < 0) (h : x.natAbs % y = 0) : x / (y : Int) = -((x.natAbs / y : Nat) : Int) ∧ x % (y : Int) = 0 := by
 refine div_unique hy ?_ (by omega) (by omega)
 have := Nat.div_add_mod x.natAbs y
 have e : (y : Int) * ((x.natAbs / y : Nat) : Int) = ((y * (x.natAbs / y) : Nat) : Int) := by simp
 rw [Int.mul_neg, e]
 generalize y * (x.natAbs / y) = t at *
 omega
theorem neg_div_pos {x : Int} {y : Nat} (hy : 0 < y) (hx : x < 0) (h : x.natAbs % y ≠ 0) : x / (y : Int) = -((x.natAbs / y : Nat) : Int) - 1 ∧ x % (y : Int) = (y : Int) - ((x.natAbs % y : Nat) : Int) := by
 have hm := Nat.mod_lt x.natAbs hy
 refine div_unique hy ?_ (by omega) (by omega)
 have := Nat.div_add_mod x.natAbs y
 have e : (y : Int) * ((x.natAbs / y : Nat) : Int) = ((y * (x.natAbs / y) : Nat) : Int) := by simp
 rw [Int.mul_sub, Int.mul_neg, e, Int.mul_one]
 generalize y * (x.natAbs / y) = t at *
 omega
theorem pos_div {x : Int} {y : Nat} (hx : ¬ x < 0) : x / (y : Int) = ((x.natAbs / y : Nat) : Int) ∧ x % (y : Int) = ((x.natAbs % y : Nat) : Int) := by
 have e : x = (x.natAbs : Int) := by omega
 constructor
 ·conv => lhs; rw [e]
  simp
 ·conv => lhs; rw [e]
  simp
theorem tdiv_neg {x : Int} {y : Nat} (hx : x < 0) : x.tdiv (y : Int) = -((x.natAbs / y : Nat) : Int) ∧ x.tmod (y : Int) = -((x.natAbs % y : Nat) : Int) := by
 have e : x = -(x.natAbs : Int) := by omega
 constructor
 ·conv => lhs; rw [e]
  rw [Int.neg_tdiv, Int.tdiv_eq_ediv_of_nonneg (by omega)]; simp
 ·conv => lhs; rw [e]
  rw [Int.neg_tmod, Int.tmod_eq_emod_of_nonneg (by omega)]; simp
set_option maxRecDepth 100000 in
set_option maxHeartbeats 1000000 in
theorem whDivMod_neg (x : Int) (y : Nat) (w : World) (hS : Std w) (hx : (itoa x).length ≤ 18) (hy : (decDigits y).length ≤ 18) (h0 : 0 < y) (hneg : x < 0) :
  Calls Tryz.prog 179 #[.string ⟨(itoa x).toArray⟩, .string ⟨(decDigits y).toArray⟩] w fun e w' => e = .returned (.tuple #[.string ⟨(itoa (x / (y : Int))).toArray⟩, .string ⟨(itoa (x % (y : Int))).toArray⟩, .int .i64 0]) ∧ Below w.heap.size w w' := by
 have hx2 := itoa_len_lt hx
 have hy2 := len18 hy
 have hz := dec_eq_zero y
 rw [decide_eq_false (by omega)] at hz
 have HLX := Lib.hid (little_yes x 18 w hx (Nat.le_refl _))
 have HLY := Lib.hid (fun W => little_nat y 18 W hy (Nat.le_refl _))
 obtain ⟨ht1, ht2⟩ := tdiv_neg (y := y) hneg
 have hq : x.natAbs / y ≤ x.natAbs := Nat.div_le_self _ _
 have hr : x.natAbs % y < y := Nat.mod_lt _ h0
 have HZ : Box (x.natAbs % y = 0 → x / (y : Int) = -((x.natAbs / y : Nat) : Int) ∧ x % (y : Int) = 0) := ⟨neg_div_zero h0 hneg⟩
 have HP : Box (x.natAbs % y ≠ 0 → x / (y : Int) = -((x.natAbs / y : Nat) : Int) - 1 ∧ x % (y : Int) = (y : Int) - ((x.natAbs % y : Nat) : Int)) := ⟨neg_div_pos h0 hneg⟩
 generalize x.natAbs / y = q at *
 generalize x.natAbs % y = r at *
 have hqb : q ≤ 1000000000000000000 := by omega
 have hrb : r ≤ 1000000000000000000 := by omega
 have hyb : y ≤ 1000000000000000000 := by omega
 have HT1b : Box (wrap64 (x.tdiv (y : Int)) = -(q : Int)) := ⟨by rw [ht1]; exact IntWalk.wrap64_in _ (by omega)⟩
 have HT2 : Box (x.tmod (y : Int) = -(r : Int)) := ⟨ht2⟩
 have HS := Lib.hid hS
 clear hS hx hy hx2 hy2 hq ht1 ht2
 generalize itoa x = lx at *
 generalize decDigits y = ly at *
 have z1 : ¬ (y : Int) = 0 := by omega
 have z2 : ((y : Int) == 0) = false := by simp; omega
 go_enter Tryz.func179, Tryz.ntmps179
 go_wp2_with fail
 refine HLX.out.mono ?_
 rintro e w1 ⟨rfl, hb1⟩
 go_wp2_with fail
 refine (HLY.out _).mono ?_
 rintro e w2 ⟨rfl, hb2⟩
 go_wp2_with fail
 go_quiet (fail)
 rw [HT1b.out, HT2.out]
 have hs2 := HS.out.below hb1 (Nat.le_refl _) |>.below hb2 (Nat.le_refl _) |>.drewN nq
 have hbw := below_drewN (hb1.trans (hb2.mono hb1.size)) nq
 clear hb1 hb2
 have HS2 := Lib.hid hs2
 clear hs2 HS
 have hy0 : ¬ (y : Int) < 0 := by omega
 by_cases hr0 : r = 0
 ·subst hr0
  obtain ⟨e1, e2⟩ := HZ.out rfl
  have HE : Box (x / (y : Int) = -(q : Int) ∧ x % (y : Int) = 0) := ⟨e1, e2⟩
  rw [show -((0 : Nat) : Int) = 0 from rfl]
  clear e1 e2 HZ HP
  have HQ := Lib.hid (fun W (hW : Std W) => whOf_any (-(q : Int)) W (by omega) (by omega) hW)
  have HR := Lib.hid (fun W (hW : Std W) => whOf_any 0 W (by omega) (by omega) hW)
  go_wp2_with fail
  refine (HQ.out _ HS2.out).mono ?_
  rintro e wk1 ⟨rfl, hbk⟩
  replace HS2 := Lib.hid (HS2.out.below hbk (Nat.le_refl _))
  replace hbw := hbw.trans (hbk.mono hbw.size)
  clear hbk
  go_wp2_with fail
  refine (HR.out _ HS2.out).mono ?_
  rintro e wk2 ⟨rfl, hbk⟩
  replace HS2 := Lib.hid (HS2.out.below hbk (Nat.le_refl _))
  replace hbw := hbw.trans (hbk.mono hbw.size)
  clear hbk
  go_wp2_with fail
  go_ret3
  exact ⟨by rw [HE.out.1, HE.out.2]; rfl, hbw⟩
 ·obtain ⟨e1, e2⟩ := HP.out hr0
  have HE : Box (x / (y : Int) = -(q : Int) - 1 ∧ x % (y : Int) = (y : Int) - r) := ⟨e1, e2⟩
  have hr1 : ((-(r : Int)) != 0) = true := by simp; omega
  have hr2 : -(r : Int) < 0 := by omega
  clear e1 e2 HZ HP
  have HQ := Lib.hid (fun W (hW : Std W) => whOf_any (-(q : Int) - 1) W (by omega) (by omega) hW)
  have HR := Lib.hid (fun W (hW : Std W) => whOf_any (-(r : Int) + y) W (by omega) (by omega) hW)
  rw [show -(r : Int) + y = (y : Int) - r by omega] at HR
  go_wp2_with fail
  refine (HQ.out _ HS2.out).mono ?_
  rintro e wk3 ⟨rfl, hbk⟩
  replace HS2 := Lib.hid (HS2.out.below hbk (Nat.le_refl _))
  replace hbw := hbw.trans (hbk.mono hbw.size)
  clear hbk
  go_wp2_with fail
  rw [show -(r : Int) + y = (y : Int) - r by omega]
  go_wp2_with fail
  refine (HR.out _ HS2.out).mono ?_
  rintro e wk4 ⟨rfl, hbk⟩
  replace HS2 := Lib.hid (HS2.out.below hbk (Nat.le_refl _))
  replace hbw := hbw.trans (hbk.mono hbw.size)
  clear hbk
  go_wp2_with fail
  go_ret3
  exact ⟨by rw [HE.out.1, HE.out.2]; rfl, hbw⟩
theorem dec_le_len {a b : Nat} (h : a ≤ b) : (decDigits a).length ≤ (decDigits b).length := by rw [dec_length, dec_length]; exact nDigits_mono h
set_option maxRecDepth 100000 in
set_option maxHeartbeats 1000000 in
theorem whDivMod_long (x : Int) (y : Nat) (w : World) (hS : Std w) (hx : (itoa x).length ≤ 50000) (hy : (decDigits y).length ≤ 50000) (h18 : 18 < (itoa x).length ∨ 18 < (decDigits y).length) (h0 : 0 < y) :
  Calls Tryz.prog 179 #[.string ⟨(itoa x).toArray⟩, .string ⟨(decDigits y).toArray⟩] w fun e w' => e = .returned (.tuple #[.string ⟨(itoa (x / (y : Int))).toArray⟩, .string ⟨(itoa (x % (y : Int))).toArray⟩, .int .i64 0]) ∧ Below w.heap.size w w' := by
 have hz := dec_eq_zero y
 rw [decide_eq_false (by omega)] at hz
 have hnx := natAbs_len x
 have HSX := Lib.hid (fun W => split_any x W (by omega))
 have HSY := Lib.hid (fun W => split_any (y : Int) W (by rw [itoa_nat]; omega))
 rw [itoa_nat, decide_eq_false (show ¬ (y : Int) < 0 by omega), show (y : Int).natAbs = y from rfl] at HSY
 have HNX := Lib.hid (fun W (h : 18 < (itoa x).length) => little_no (itoa x) 18 W h (by omega))
 have HNY := Lib.hid (fun W (h : 18 < (decDigits y).length) => little_no (decDigits y) 18 W h (by omega))
 have HYX := Lib.hid (fun W (h : (itoa x).length ≤ 18) => little_yes x 18 W h (by omega))
 have HD := Lib.hid (fun W hW => divMod_any x.natAbs y W hW (by omega) (by omega) h0)
 have hq := dec_le_len (Nat.div_le_self x.natAbs y)
 have hrl := dec_le_len (Nat.le_of_lt (Nat.mod_lt x.natAbs h0))
 have HA := Lib.hid (fun W hW => decAdd_any (x.natAbs / y) 1 W hW (by omega) (by rw [dec_small (by omega)]; simp))
 rw [show decDigits 1 = [49] by rw [dec_small (by omega)]; rfl] at HA
 have HB := Lib.hid (fun W hW => decSub_any y (x.natAbs % y) W hW (by omega) (by omega) (Nat.le_of_lt (Nat.mod_lt x.natAbs h0)))
 have hq1 : (decDigits (x.natAbs / y + 1)).length ≤ 100000 := by
  have h := dec_mul_len 2 (x.natAbs / y + 1)
  have h2 : x.natAbs / y + 1 ≤ 2 * x.natAbs + 2 := by have := Nat.div_le_self x.natAbs y; omega
  have h3 := dec_le_len h2
  have h4 := dec_mul_len 2 (x.natAbs + 1)
  have h5 : (decDigits 2).length = 1 := by rw [dec_small (by omega)]; rfl
  have h6 : (decDigits (x.natAbs + 1)).length ≤ (decDigits x.natAbs).length + 2 := by
   have h7 : x.natAbs + 1 ≤ 2 * x.natAbs ∨ x.natAbs = 0 := by omega
   rcases h7 with h7 | h7
   ·have := dec_le_len h7
    have h8 := dec_mul_len 2 x.natAbs
    omega
   ·rw [h7, dec_small (by omega), dec_small (by omega)]; simp
  rw [show 2 * x.natAbs + 2 = 2 * (x.natAbs + 1) by omega] at h3
  omega
 have hyr := dec_le_len (Nat.sub_le y (x.natAbs % y))
 have HJ1 := Lib.hid (fun b W => join_any b (x.natAbs / y) W (by omega))
 have HJ2 := Lib.hid (fun b W => join_any b (x.natAbs / y + 1) W hq1)
 have HJ3 := Lib.hid (fun b W => join_any b (x.natAbs % y) W (by omega))
 have HJ4 := Lib.hid (fun b W => join_any b (y - x.natAbs % y) W (by omega))
 have hmod := Nat.mod_lt x.natAbs h0
 have hzr := dec_eq_zero (x.natAbs % y)
 have EP : Box (¬ x < 0 → x / (y : Int) = ((x.natAbs / y : Nat) : Int) ∧ x % (y : Int) = ((x.natAbs % y : Nat) : Int)) := ⟨pos_div⟩
 have EZ : Box (x < 0 → x.natAbs % y = 0 → x / (y : Int) = -((x.natAbs / y : Nat) : Int) ∧ x % (y : Int) = 0) := ⟨neg_div_zero h0⟩
 have EN : Box (x < 0 → x.natAbs % y ≠ 0 → x / (y : Int) = -((x.natAbs / y : Nat) : Int) - 1 ∧ x % (y : Int) = (y : Int) - ((x.natAbs % y : Nat) : Int)) := ⟨neg_div_pos h0⟩
 have HS := Lib.hid hS
 clear hS hnx hq hrl hq1 hyr hx hy
 generalize x.natAbs / y = q at *
 generalize x.natAbs % y = r at *
 generalize x.natAbs = n at *
 generalize itoa x = lx at *
 generalize decDigits y = ly at *
 by_cases hx9 : lx.length ≤ 18
 case' pos =>
  go_enter Tryz.func179, Tryz.ntmps179
  go_wp2_with fail
  refine (HYX.out _ hx9).mono ?_
  rintro e w1 ⟨rfl, hbw⟩
  go_wp2_with fail
  refine (HNY.out _ (by omega)).mono ?_
  rintro e w2 ⟨rfl, rfl⟩
 case' neg =>
  go_enter Tryz.func179, Tryz.ntmps179
  go_wp2_with fail
  refine (HNX.out _ (by omega)).mono ?_
  rintro e w1 ⟨rfl, rfl⟩
  have hbw := Below.refl w.heap.size w
 all_goals
  replace HS := Lib.hid (HS.out.below hbw (Nat.le_refl _))
  clear HNX HNY HYX h18
  go_wp2_with fail
  refine (HSX.out _).mono ?_
  rintro e wk5 ⟨rfl, hbk⟩
  replace HS := Lib.hid (HS.out.below hbk (Nat.le_refl _))
  replace hbw := hbw.trans (hbk.mono hbw.size)
  clear hbk
  go_wp2_with fail
  refine (HSY.out _).mono ?_
  rintro e wk6 ⟨rfl, hbk⟩
  replace HS := Lib.hid (HS.out.below hbk (Nat.le_refl _))
  replace hbw := hbw.trans (hbk.mono hbw.size)
  clear hbk
  go_wp2_with fail
  refine (HD.out _ HS.out).mono ?_
  rintro e wk7 ⟨rfl, hbk⟩
  replace HS := Lib.hid (HS.out.below hbk (Nat.le_refl _))
  replace hbw := hbw.trans (hbk.mono hbw.size)
  clear hbk
  by_cases hneg : x < 0
  ·rw [decide_eq_true hneg]
   by_cases hr0 : r = 0
   ·obtain ⟨e1, e2⟩ := EZ.out hneg hr0
    subst hr0
    have F1 : Box (itoa (signed true q) = itoa (x / (y : Int))) := ⟨by rw [e1, signed_true]⟩
    have F2 : Box (itoa (signed false 0) = itoa (x % (y : Int))) := ⟨by rw [e2, signed_false]; rfl⟩
    have hzr2 : (decDigits 0 != [48]) = false := by simp only [bne, hzr]; rfl
    rw [decide_eq_true rfl] at hzr
    clear e1 e2 hneg EP EZ EN
    generalize decDigits 0 = l0 at *
    go_wp2_with fail
    refine (HJ1.out true _).mono ?_
    rintro e wk8 ⟨rfl, rfl⟩
    go_wp2_with fail
    refine (HJ3.out false _).mono ?_
    rintro e wk9 ⟨rfl, rfl⟩
    go_wp2_with fail
    go_ret3
    exact ⟨by rw [F1.out, F2.out]; rfl, hbw⟩
   ·obtain ⟨e1, e2⟩ := EN.out hneg hr0
    have F1 : Box (itoa (signed true (q + 1)) = itoa (x / (y : Int))) := ⟨by rw [e1, signed_true]; congr 1; omega⟩
    have F2 : Box (itoa (signed false (y - r)) = itoa (x % (y : Int))) := ⟨by rw [e2, signed_false]; congr 1; omega⟩
    rw [decide_eq_false hr0] at hzr
    have hzr2 : (decDigits r != [48]) = true := by simp only [bne, hzr]; rfl
    clear e1 e2 hneg EP EZ EN hr0
    generalize decDigits r = lr at *
    go_wp2_with fail
    refine (HA.out _ HS.out).mono ?_
    rintro e wk10 ⟨rfl, hbk⟩
    replace HS := Lib.hid (HS.out.below hbk (Nat.le_refl _))
    replace hbw := hbw.trans (hbk.mono hbw.size)
    clear hbk
    go_wp2_with fail
    refine (HB.out _ HS.out).mono ?_
    rintro e wk11 ⟨rfl, hbk⟩
    replace HS := Lib.hid (HS.out.below hbk (Nat.le_refl _))
    replace hbw := hbw.trans (hbk.mono hbw.size)
    clear hbk
    go_wp2_with fail
    refine (HJ2.out true _).mono ?_
    rintro e wk12 ⟨rfl, rfl⟩
    go_wp2_with fail
    refine (HJ4.out false _).mono ?_
    rintro e wk13 ⟨rfl, rfl⟩
    go_wp2_with fail
    go_ret3
    exact ⟨by rw [F1.out, F2.out]; rfl, hbw⟩
  ·rw [decide_eq_false hneg]
   obtain ⟨e1, e2⟩ := EP.out (by omega)
   have F1 : Box (itoa (signed false q) = itoa (x / (y : Int))) := ⟨by rw [e1, signed_false]⟩
   have F2 : Box (itoa (signed false r) = itoa (x % (y : Int))) := ⟨by rw [e2, signed_false]⟩
   clear e1 e2 hneg EP EZ EN
   go_wp2_with fail
   refine (HJ1.out false _).mono ?_
   rintro e wk14 ⟨rfl, rfl⟩
   go_wp2_with fail
   refine (HJ3.out false _).mono ?_
   rintro e wk15 ⟨rfl, rfl⟩
   go_wp2_with fail
   go_ret3
   exact ⟨by rw [F1.out, F2.out]; rfl, hbw⟩
theorem whDivMod_any (x : Int) (y : Nat) (w : World) (hS : Std w) (hx : (itoa x).length ≤ 50000) (hy : (decDigits y).length ≤ 50000) (h0 : 0 < y) :
  Calls Tryz.prog 179 #[.string ⟨(itoa x).toArray⟩, .string ⟨(decDigits y).toArray⟩] w fun e w' => e = .returned (.tuple #[.string ⟨(itoa (x / (y : Int))).toArray⟩, .string ⟨(itoa (x % (y : Int))).toArray⟩, .int .i64 0]) ∧ Below w.heap.size w w' := by
 by_cases h18 : 18 < (itoa x).length ∨ 18 < (decDigits y).length
 ·exact whDivMod_long x y w hS hx hy h18 h0
 ·by_cases hneg : x < 0
  ·exact whDivMod_neg x y w hS (by omega) (by omega) h0 hneg
  ·obtain ⟨e1, e2⟩ := pos_div (y := y) hneg
   rw [e1, e2, itoa_nat, itoa_nat]
   rcases itoa_cases x with ⟨h, _⟩ | ⟨_, e⟩
   ·exact absurd h hneg
   ·rw [e] at h18 ⊢
    exact whDivMod_small x.natAbs y w hS (by omega) (by omega) h0
end Go.Proofs.YtaaeekahhhookaaGreatDoor
