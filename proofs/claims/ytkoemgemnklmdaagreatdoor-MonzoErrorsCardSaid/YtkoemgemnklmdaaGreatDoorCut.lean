/- decimal: cut. -/
import Derived.Test.YtkoemgemnklmdaaGreatDoorTimes
import Derived.Test.YtkoemgemnklmdaaGreatDoorConv
import Derived.Lib.Strings
namespace Go.Proofs.YtkoemgemnklmdaaGreatDoor
open Go.RowKit

/-- What the outer loop of cut has reached: the pieces l of the digits behind place z. -/
structure CutAt (x : List UInt8) (z : Int) (l : List Nat) : Prop where
  pos : z = (x.length : Int) - 9 * l.length
  pcs : Pcs l
  val : pv l + 1000000000 ^ l.length * dval 0 (x.take z.toNat) = dval 0 x

theorem cut_at_start (x : List UInt8) : CutAt x (x.length : Int) [] :=
  ⟨by simp, fun y hy => by simp at hy, by simp [pv]⟩

theorem cut_at_step {x : List UInt8} {z : Int} {l : List Nat} (h : CutAt x z l) (hd : ∀ c ∈ x, isDig c) (hz : 0 < z) (v : Nat) (hv : v = dval 0 ((x.take z.toNat).drop (z.toNat - 9))) : CutAt x (z - 9) (l ++ [v]) := by
  subst hv
  have hp := h.pos
  refine ⟨by simp; omega, ?_, ?_⟩
  · intro y hy
    rcases List.mem_append.1 hy with hy | hy
    · exact h.pcs y hy
    · rw [List.mem_singleton] at hy
      subst hy
      have h1 := dval_lt0 ((x.take z.toNat).drop (z.toNat - 9)) (fun c hc => hd c (List.mem_of_mem_take (List.mem_of_mem_drop hc)))
      have h2 : ((x.take z.toNat).drop (z.toNat - 9)).length ≤ 9 := by simp only [List.length_drop, List.length_take]; omega
      have h3 := Nat.pow_le_pow_right (show 0 < 10 by omega) h2
      omega
  · have := cut_round x (dval 0 x) z.toNat l (by omega) (by omega) h.val
    rw [show (z - 9).toNat = z.toNat - 9 by omega, List.length_append]
    exact this

theorem cut_at_end {x : List UInt8} {z : Int} {l : List Nat} (h : CutAt x z l) (hz : z ≤ 0) : pv l = dval 0 x := by
  have := h.val
  rw [show z.toNat = 0 by omega] at this
  simpa [dval_nil] using this

theorem dig_get {l : List UInt8} (hd : ∀ c ∈ l, isDig c) {k : Nat} (hk : k < l.length) : 48 ≤ (l[k]?.getD 0).toNat ∧ (l[k]?.getD 0).toNat ≤ 57 := by
  have := hd (l[k]?.getD 0) (by rw [List.getElem?_eq_getElem hk]; exact List.getElem_mem hk)
  exact this

theorem dval_take_succ (l : List UInt8) (k : Nat) (hk : k < l.length) : dval 0 (l.take (k + 1)) = 10 * dval 0 (l.take k) + dgv (l[k]?.getD 0) := by
  rw [List.take_succ_eq_append_getElem hk, dval_snoc, List.getElem?_eq_getElem hk]; rfl

theorem dval_take_lt {l : List UInt8} (hd : ∀ c ∈ l, isDig c) (k m : Nat) (hk : k ≤ m) : dval 0 (l.take k) < 10 ^ m := by
  have h1 := dval_lt0 (l.take k) (fun c hc => hd c (List.mem_of_mem_take hc))
  have h2 : (l.take k).length ≤ m := by rw [List.length_take]; omega
  exact Nat.lt_of_lt_of_le h1 (Nat.pow_le_pow_right (by omega) h2)

theorem ext_eq (s : ByteArray) (a b : Nat) : (s.extract a b).data.toList = (s.data.toList.take b).drop a := by rw [Lib.extract_data, List.drop_take]
theorem addr0 (g k : Nat) : (⟨g, 0, Option.none⟩ : Addr).add k = ⟨g, k, Option.none⟩ := by unfold Addr.add; split <;> simp_all
theorem cell_new1 (w : World) (v : Value) (t : TypeId) : ∀ (j : Nat) (u : Value), [v][j]? = some u → (w.alloc (.cells #[v] t)).cell? ((⟨w.heap.size, 0, Option.none⟩ : Addr).add j) = some u := cell_one_new w v t

set_option maxRecDepth 100000 in
set_option maxHeartbeats 1000000 in
theorem cut_any (x : ByteArray) (w : World) (hd : ∀ c ∈ x.data.toList, isDig c) (hs : x.size ≤ 1000000) :
    Calls Tryz.prog 67 #[.string x] w fun e w' => OwnP w.heap.size (dval 0 x.data.toList) w' e ∧ Below w.heap.size w w' := by
  obtain ⟨i0, hi0, hz0, hz1, hz2⟩ := info_parts Tryz.info_u64
  have HD := Lib.hid hd
  clear hd
  go_enter Tryz.func67, Tryz.ntmps67
  go_wp2_with (at_make; refine wpList_make_own _ rfl _ _ _ rfl w.heap.size 101 i0 (.int .u64 0) 1 Tryz.underlying103 hi0 hz0 hz1 .i64 .i64 _ (x.size / 9 + 1) rfl rfl (by omega) (by rw [hz2]; omega) (by unfold maxLen; omega) (Nat.le_refl _) ?_; intro w1 hown hg1)
  have hb1 : Below w.heap.size w w1 := (Below.refl _ _).grown hg1 (Nat.le_refl _) (by simp)
  clear hg1
  have hxl : x.data.toList.length = x.size := by simp
  have HXL := Lib.hid hxl
  clear hxl
  go_loopw [3, 4] (fun v i wr => ∃ (z : Int) (l : List Nat), i = .int .i64 z ∧ CutAt x.data.toList z l ∧ wr.ownsRow w.heap.size 101 1 v l.length (us l) ∧ Below w.heap.size w wr) (fun _ i _ => (intOf i).toNat)
  case atStart => exact ⟨_, [], rfl, by rw [← HXL.out]; exact cut_at_start _, hown, hb1⟩
  case round =>
    clear hown hb1
    obtain ⟨z, l, rfl, hcut, hown, hbw⟩ := hrel
    have hzx : z ≤ x.size := by have := hcut.pos; have := HXL.out; omega
    by_cases hz : 0 < z
    · obtain ⟨en, rfl⟩ : ∃ en : Nat, z = (en : Int) := ⟨z.toNat, by omega⟩
      obtain ⟨ch, hch⟩ : ∃ ch, ch = (x.data.toList.take en).drop (en - 9) := ⟨_, rfl⟩
      have hchl : ch.length ≤ 9 := by rw [hch]; simp only [List.length_drop, List.length_take]; omega
      have HC := Lib.hid hch
      clear hch
      have HCD : Hid (∀ c ∈ ch, isDig c) := by rw [HC.out]; exact fun c hc => HD.out c (List.mem_of_mem_take (List.mem_of_mem_drop hc))
      have HN := Lib.hid hown
      clear hown
      by_cases h9 : 9 < en
      · go_wp2_with (refine wpList_bytes _ rfl _ _ _ rfl 5 Tryz.underlying36 Tryz.underlying134 Tryz.underlying5 _ rfl ch (by rw [ext_eq]; exact HC.out.symm) ?_; intro cap w2 hb2 hr2)
        go_loop [5, 27] (fun v i => ∃ t : Nat, t ≤ ch.length ∧ i = .int .i64 t ∧ v = .int .u64 ((dval 0 (ch.take t) : Nat) : Int)) (fun _ i => ch.length - (intOf i).toNat)
        case atStart => exact ⟨0, Nat.zero_le _, rfl, rfl⟩
        case round =>
          obtain ⟨t, ht, rfl, rfl⟩ := hrel
          have hdv : dval 0 (ch.take t) < 10 ^ 9 := dval_take_lt HCD.out t 9 (by omega)
          by_cases htl : t < ch.length
          · have hv9 : dval 0 (ch.take t) < 10 ^ 8 := dval_take_lt HCD.out t 8 (by omega)
            have HV := Lib.hid (dval_take_succ ch t htl)
            have hdg := dig_get HCD.out htl
            have hg := dgv_eq (ch[t]?.getD 0)
            obtain ⟨ad, e, _, hcell⟩ := hr2.b_at htl
            injection e with e
            subst e
            rw [addr0] at hcell
            generalize hcc : (ch[t]?.getD 0).toNat = cc at hcell hdg hg
            generalize hvv : dval 0 (ch.take t) = dv at hdv hv9 HV
            have HG := Lib.hid hg
            have HCC := Lib.hid hcc
            clear hg hcc
            go_wp2
            go_round
            case rel => exact ⟨t + 1, by omega, by go_num, by rw [HV.out, HG.out]; go_num⟩
            case measure => simp [intOf]; omega
          · obtain rfl : t = ch.length := by omega
            have hown2 := own_below HN.out hb2
            have hll : l.length ≤ 1000000 := by have := hcut.pos; have := HXL.out; omega
            have hvch : dval 0 (ch.take ch.length) = dval 0 ch := by rw [List.take_of_length_le (Nat.le_refl _)]
            generalize hvv : dval 0 (ch.take ch.length) = dv at hdv hvch
            have HVC := Lib.hid hvch
            clear hvch hvv
            go_wp2_with (at_builtin; refine wpList_append_own _ rfl _ _ _ rfl w.heap.size 101 i0 (.int .u64 0) 1 8 Tryz.underlying103 hi0 hz0 hz1 hz2 rfl (by decide) _ _ _ rfl (hown2.alloc _) ⟨w2.heap.size, 0, Option.none⟩ 1 1 [.int .u64 (dv : Int)] rfl rfl (cell_one_new _ _ _) (by intro u hu; simp at hu; subst hu; rfl) (by unfold maxLen; omega) (by omega) (by have := hbw.size; have := hb2.size; simp; omega) ?_; intro v3 w3 hown3 hg3 _)
            go_wp2
            go_roundw
            case rel =>
              refine ⟨_, l ++ [dv], rfl, cut_at_step hcut HD.out hz dv (by rw [HVC.out, HC.out]; rfl), ?_, ?_⟩
              · rw [List.length_append, us_append]; exact hown3
              · exact ((hbw.trans (hb2.mono hbw.size)).alloc (by have := hbw.size; have := hb2.size; omega) _).grown hg3 (by have := hbw.size; have := hb2.size; simp; omega) (fun k hk => (HN.out.lt k hk).1)
            case measure => simp [intOf]; omega
      · go_wp2_with (refine wpList_bytes _ rfl _ _ _ rfl 5 Tryz.underlying36 Tryz.underlying134 Tryz.underlying5 _ rfl ch (by rw [ext_eq, HC.out, show en - 9 = 0 by omega]) ?_; intro cap w2 hb2 hr2)
        go_loop [5, 27] (fun v i => ∃ t : Nat, t ≤ ch.length ∧ i = .int .i64 t ∧ v = .int .u64 ((dval 0 (ch.take t) : Nat) : Int)) (fun _ i => ch.length - (intOf i).toNat)
        case atStart => exact ⟨0, Nat.zero_le _, rfl, rfl⟩
        case round =>
          obtain ⟨t, ht, rfl, rfl⟩ := hrel
          have hdv : dval 0 (ch.take t) < 10 ^ 9 := dval_take_lt HCD.out t 9 (by omega)
          by_cases htl : t < ch.length
          · have hv9 : dval 0 (ch.take t) < 10 ^ 8 := dval_take_lt HCD.out t 8 (by omega)
            have HV := Lib.hid (dval_take_succ ch t htl)
            have hdg := dig_get HCD.out htl
            have hg := dgv_eq (ch[t]?.getD 0)
            obtain ⟨ad, e, _, hcell⟩ := hr2.b_at htl
            injection e with e
            subst e
            rw [addr0] at hcell
            generalize hcc : (ch[t]?.getD 0).toNat = cc at hcell hdg hg
            generalize hvv : dval 0 (ch.take t) = dv at hdv hv9 HV
            have HG := Lib.hid hg
            have HCC := Lib.hid hcc
            clear hg hcc
            go_wp2
            go_round
            case rel => exact ⟨t + 1, by omega, by go_num, by rw [HV.out, HG.out]; go_num⟩
            case measure => simp [intOf]; omega
          · obtain rfl : t = ch.length := by omega
            have hown2 := own_below HN.out hb2
            have hll : l.length ≤ 1000000 := by have := hcut.pos; have := HXL.out; omega
            have hvch : dval 0 (ch.take ch.length) = dval 0 ch := by rw [List.take_of_length_le (Nat.le_refl _)]
            generalize hvv : dval 0 (ch.take ch.length) = dv at hdv hvch
            have HVC := Lib.hid hvch
            clear hvch hvv
            go_wp2_with (at_builtin; refine wpList_append_own _ rfl _ _ _ rfl w.heap.size 101 i0 (.int .u64 0) 1 8 Tryz.underlying103 hi0 hz0 hz1 hz2 rfl (by decide) _ _ _ rfl (hown2.alloc _) ⟨w2.heap.size, 0, Option.none⟩ 1 1 [.int .u64 (dv : Int)] rfl rfl (cell_one_new _ _ _) (by intro u hu; simp at hu; subst hu; rfl) (by unfold maxLen; omega) (by omega) (by have := hbw.size; have := hb2.size; simp; omega) ?_; intro v3 w3 hown3 hg3 _)
            go_wp2
            go_roundw
            case rel =>
              refine ⟨_, l ++ [dv], rfl, cut_at_step hcut HD.out hz dv (by rw [HVC.out, HC.out]; rfl), ?_, ?_⟩
              · rw [List.length_append, us_append]; exact hown3
              · exact ((hbw.trans (hb2.mono hbw.size)).alloc (by have := hbw.size; have := hb2.size; omega) _).grown hg3 (by have := hbw.size; have := hb2.size; simp; omega) (fun k hk => (HN.out.lt k hk).1)
            case measure => simp [intOf]; omega
    · obtain ⟨A, c, rfl, hlc, hcm, hrow⟩ := Row.of_own hown
      go_wp2_with (go_at_call 109; refine (trim_any _ _ _ _ l _ hrow hlc hcm hcut.pcs).mono ?_; rintro e w' ⟨rfl, rfl⟩)
      go_ret
      have hv := cut_at_end hcut (by omega)
      rw [← hv]
      obtain ⟨hle, htk⟩ := trim_take l hcut.pcs
      refine ⟨⟨_, rfl, ?_⟩, hbw⟩
      have ho := own_take hown hle
      rw [← us_take, htk] at ho
      exact ho

end Go.Proofs.YtkoemgemnklmdaaGreatDoor
