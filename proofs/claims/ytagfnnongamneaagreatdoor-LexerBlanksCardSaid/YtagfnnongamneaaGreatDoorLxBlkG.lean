/- LexerBlanks: the walk. -/
import Derived.Test.YtagfnnongamneaaGreatDoorGN
import Derived.Test.YtagfnnongamneaaGreatDoorGQ
namespace Go.Proofs.YtagfnnongamneaaGreatDoor
open Go.RowKit Go.Lib

set_option maxRecDepth 100000 in
set_option maxHeartbeats 8000000 in
theorem lxBlk_good (s : List UInt8) (sd : Nat) (w : World) (hS : Std w) (hL : LenIs w) (hs : s.length ≤ 300) (l : List Tok) (hg : scanRead s = .good l) :
    Calls Tryz.prog 7 #[.string ⟨s.toArray⟩, .int .u16 sd] w fun e w' => e = .returned (.bool true) ∧ Below w.heap.size w w' := by
  obtain ⟨i0, hi0, hz0, hz1, hz2⟩ := info_parts Tryz.info_string
  have HK := Lib.hid (known47 w hS hL)
  have HS := Lib.hid hS
  have HLI : Hid (LenIs w) := Lib.hid hL
  have HS1 := Lib.hid (fun W hW hLW => scan_any s W hW hLW (by omega))
  rw [hg] at HS1
  have HSP := Lib.hid (fun W m hm => splitAt_any 10 s m W (by omega) hm)
  have HIN : Box (Inc l) := ⟨scan_inc hg⟩
  have HLW : Box (∀ bs : List (Bool × Bool), bs.length = (cutAll 10 s).length → (Lib.join (blkB bs (cutAll 10 s)) [10]).length ≤ 5000 ∧ ∃ m, scanRead (Lib.join (blkB bs (cutAll 10 s)) [10]) = .good m ∧ cores l = cores m) := ⟨fun bs hb => blanks_law hs hb hg⟩
  have hwn : (cutAll 10 s).length ≤ 301 := by have := cutAll_len 10 s; omega
  have HPL : Box (∀ k, k < (cutAll 10 s).length → ((cutAll 10 s)[k]?.getD []).length ≤ 300) := ⟨fun k hk => by have := cutAll_piece 10 s _ (List.getElem_mem hk); rw [List.getElem?_eq_getElem hk]; simp only [Option.getD_some]; omega⟩
  have hsi : (s.length : Int) ≤ 300 := by omega
  clear hS hL hg
  generalize cutAll 10 s = ws at *
  go_enter Tryz.func7, Tryz.ntmps7
  go_wp2_with fail
  refine HK.out.mono ?_
  rintro e w1 ⟨rfl, hbw⟩
  clear HK
  go_wp2_with fail
  refine (HS1.out _ (HS.out.below hbw (Nat.le_refl _)) (HLI.out.below hbw)).mono ?_
  rintro e w2 ⟨⟨AL, cl, rfl, htl⟩, hb⟩
  have HT := Lib.hid htl
  replace hbw := hbw.trans (hb.mono hbw.size)
  clear hb htl HS1
  have hln : l.length ≤ 9223372036854775807 := by
    obtain ⟨_, _, _, e, h1, h2, _⟩ := HT.out
    injection e with _ _ e
    unfold maxLen at h2
    omega
  go_wp2_with fail
  have hbp := hbw.alloc hbw.size (.cells #[.int .i64 0, .int .i64 0] 25)
  replace HT := Lib.hid (HT.out.lift ((Below.refl _ _).alloc (Nat.le_refl _) (.cells #[.int .i64 0, .int .i64 0] 25)))
  obtain ⟨m, hm⟩ := HLI.out.below hbp
  refine (HSP.out _ m hm).mono ?_
  rintro e w3 ⟨B, rfl, hww, hb⟩
  clear hm HSP
  have HW := Lib.hid hww
  replace HT := Lib.hid (HT.out.lift hb)
  have HBP := Lib.hid (hbp.trans (hb.mono hbp.size))
  clear hb hww hbp hbw
  go_wp2_with fail
  go_loopw [8, 39] (fun ov iv wr => ∃ (k : Nat) (bs : List (Bool × Bool)), k ≤ ws.length ∧ iv = .int .i64 k ∧ bs.length = k ∧ wr.ownsRow w3.heap.size 9 1 ov (blkB bs (ws.take k)).length (strs (blkB bs (ws.take k))) ∧ Below w3.heap.size w3 wr) (fun _ iv _ => ws.length - (intOf iv).toNat)
  case atStart => exact ⟨0, [], Nat.zero_le _, rfl, rfl, World.ownsRow_nil _ _ _ _, Below.refl _ _⟩
  case round =>
    obtain ⟨k, bs, hk, rfl, hbl, hown, hbk⟩ := hrel
    by_cases hlt : k < ws.length
    · have hc := (HW.out.below hbk).2 k hlt
      have hpl := HPL.out k hlt
      have HTK : Box (ws.take (k + 1) = ws.take k ++ [ws[k]?.getD []]) := ⟨by rw [List.take_succ_eq_append_getElem hlt, List.getElem?_eq_getElem hlt]; rfl⟩
      have hlen := blkB_len bs (ws.take k)
      rw [List.length_take, Nat.min_eq_left hk] at hlen
      have HTL : Box ((ws.take k).length = k) := ⟨by rw [List.length_take, Nat.min_eq_left hk]⟩
      generalize ws[k]?.getD [] = t at *
      have hs1 : ¬ 9223372036854775807 < 2 + t.length := by omega
      have hs2 : ¬ 9223372036854775807 < 2 + t.length + 6 := by omega
      have hbsz := hbk.size
      have HO := Lib.hid hown
      have HBK := Lib.hid hbk
      have HBL := Lib.hid hbl
      have HB : Box (∀ b : Bool × Bool, blkB (bs ++ [b]) (ws.take (k + 1)) = blkB bs (ws.take k) ++ (deco b.1 t :: extra b.2)) := ⟨fun b => by rw [HTK.out]; exact blkB_snoc bs _ b t (by rw [HTL.out]; exact hbl)⟩
      clear hown hbk hbl
      go_upto_region 13 with (at_builtin; refine wpList_append_own _ rfl _ _ _ rfl w3.heap.size 9 i0 (.string ⟨#[]⟩) 1 16 Tryz.underlying46 hi0 hz0 hz1 hz2 rfl (by decide) _ _ _ rfl (HO.out.alloc _) ⟨wr.heap.size, 0, Option.none⟩ 1 1 [_] rfl rfl (cell_one_new _ _ _) (by intro u hu; simp at hu; subst hu; rfl) (by unfold maxLen; omega) (by omega) (by simp; omega) ?_; intro v4 w4 hown4 hg4 _)
      · have hb4 : Below w3.heap.size w3 w4 := (HBK.out.trans (((Below.refl _ _).alloc (Nat.le_refl _) _).mono HBK.out.size)).grown hg4 (by simp; omega) (fun k hk => (HO.out.lt k hk).1)
        rw [(congrArg (· ++ (⟨#[32, 59, 32, 120, 32, 91]⟩ : ByteArray)) (ba_append [32, 9] t)).trans (ba_append ([32, 9] ++ t) [32, 59, 32, 120, 32, 91])] at hown4
        have ho4 : w4.ownsRow w3.heap.size 9 1 v4 (blkB bs (ws.take k) ++ [deco true t]).length (strs (blkB bs (ws.take k) ++ [deco true t])) := by rw [strs_snoc, List.length_append]; exact hown4
        have hl4 : (blkB bs (ws.take k) ++ [deco true t]).length ≤ 700 := by rw [List.length_append, List.length_singleton]; omega
        have hL1 : Box (blkB (bs ++ [(true, true)]) (ws.take (k + 1)) = (blkB bs (ws.take k) ++ [deco true t]) ++ [[32, 32, 59, 32, 60]]) := ⟨by rw [HB.out]; simp [extra]⟩
        have hL2 : Box (blkB (bs ++ [(true, false)]) (ws.take (k + 1)) = blkB bs (ws.take k) ++ [deco true t]) := ⟨by rw [HB.out]; simp [extra]⟩
        generalize blkB bs (ws.take k) ++ [deco true t] = L1 at *
        have HO4 := Lib.hid ho4
        have HB4 := Lib.hid hb4
        have hsz4 := hb4.size
        clear hown4 hg4 ho4 hb4 HO HBK HB
        go_wp2_with (at_builtin; refine wpList_append_own _ rfl _ _ _ rfl w3.heap.size 9 i0 (.string ⟨#[]⟩) 1 16 Tryz.underlying46 hi0 hz0 hz1 hz2 rfl (by decide) _ _ _ rfl (HO4.out.alloc _) ⟨w4.heap.size, 0, Option.none⟩ 1 1 [_] rfl rfl (cell_one_new _ _ _) (by intro u hu; simp at hu; subst hu; rfl) (by unfold maxLen; omega) (by omega) (by simp; omega) ?_; intro v5 w5 hown5 hg5 _)
        · go_roundw
          case rel =>
            refine ⟨k + 1, bs ++ [(true, true)], by omega, by go_num, by simp [HBL.out], ?_, ?_⟩
            · rw [hL1.out, strs_snoc, List.length_append]; exact hown5
            · exact (HB4.out.trans (((Below.refl _ _).alloc (Nat.le_refl _) _).mono HB4.out.size)).grown hg5 (by simp; omega) (fun k hk => (HO4.out.lt k hk).1)
          case measure => simp [intOf]; omega
        · go_roundw
          case rel =>
            refine ⟨k + 1, bs ++ [(true, false)], by omega, by go_num, by simp [HBL.out], ?_, HB4.out⟩
            rw [hL2.out]; exact HO4.out
          case measure => simp [intOf]; omega
      · have hb4 : Below w3.heap.size w3 w4 := (HBK.out.trans (((Below.refl _ _).alloc (Nat.le_refl _) _).mono HBK.out.size)).grown hg4 (by simp; omega) (fun k hk => (HO.out.lt k hk).1)
        have ho4 : w4.ownsRow w3.heap.size 9 1 v4 (blkB bs (ws.take k) ++ [deco false t]).length (strs (blkB bs (ws.take k) ++ [deco false t])) := by rw [strs_snoc, List.length_append]; exact hown4
        have hl4 : (blkB bs (ws.take k) ++ [deco false t]).length ≤ 700 := by rw [List.length_append, List.length_singleton]; omega
        have hL1 : Box (blkB (bs ++ [(false, true)]) (ws.take (k + 1)) = (blkB bs (ws.take k) ++ [deco false t]) ++ [[32, 32, 59, 32, 60]]) := ⟨by rw [HB.out]; simp [extra]⟩
        have hL2 : Box (blkB (bs ++ [(false, false)]) (ws.take (k + 1)) = blkB bs (ws.take k) ++ [deco false t]) := ⟨by rw [HB.out]; simp [extra]⟩
        generalize blkB bs (ws.take k) ++ [deco false t] = L1 at *
        have HO4 := Lib.hid ho4
        have HB4 := Lib.hid hb4
        have hsz4 := hb4.size
        clear hown4 hg4 ho4 hb4 HO HBK HB
        go_wp2_with (at_builtin; refine wpList_append_own _ rfl _ _ _ rfl w3.heap.size 9 i0 (.string ⟨#[]⟩) 1 16 Tryz.underlying46 hi0 hz0 hz1 hz2 rfl (by decide) _ _ _ rfl (HO4.out.alloc _) ⟨w4.heap.size, 0, Option.none⟩ 1 1 [_] rfl rfl (cell_one_new _ _ _) (by intro u hu; simp at hu; subst hu; rfl) (by unfold maxLen; omega) (by omega) (by simp; omega) ?_; intro v5 w5 hown5 hg5 _)
        · go_roundw
          case rel =>
            refine ⟨k + 1, bs ++ [(false, true)], by omega, by go_num, by simp [HBL.out], ?_, ?_⟩
            · rw [hL1.out, strs_snoc, List.length_append]; exact hown5
            · exact (HB4.out.trans (((Below.refl _ _).alloc (Nat.le_refl _) _).mono HB4.out.size)).grown hg5 (by simp; omega) (fun k hk => (HO4.out.lt k hk).1)
          case measure => simp [intOf]; omega
        · go_roundw
          case rel =>
            refine ⟨k + 1, bs ++ [(false, false)], by omega, by go_num, by simp [HBL.out], ?_, HB4.out⟩
            rw [hL2.out]; exact HO4.out
          case measure => simp [intOf]; omega
    · obtain rfl : k = ws.length := by omega
      rw [List.take_of_length_le (Nat.le_refl _)] at hown
      obtain ⟨hj, ms, hsm, hcm⟩ := HLW.out bs hbl
      have hlen := blkB_len bs ws
      have HJ := Lib.hid (join_own w3.heap.size _ (blkB bs ws) [10] wr hown (by omega) (by omega))
      have HS2 := Lib.hid (fun W hW hLW => scan_any (Lib.join (blkB bs ws) [10]) W hW hLW (by omega))
      rw [hsm] at HS2
      have HSM : Box (toksSame false l ms = true) := ⟨toksSame_cores l ms hcm⟩
      replace HT := Lib.hid (HT.out.lift hbk)
      have hbn := HBP.out.trans (hbk.mono HBP.out.size)
      clear hown hj hsm hcm hlen hbk HLW
      generalize Lib.join (blkB bs ws) [10] = jt at *
      go_wp2_with fail
      refine HJ.out.mono ?_
      rintro e w6 ⟨rfl, hb⟩
      replace HT := Lib.hid (HT.out.lift hb)
      replace hbn := hbn.trans (hb.mono hbn.size)
      clear hb
      go_wp2_with fail
      refine (HS2.out _ (HS.out.below hbn (Nat.le_refl _)) (HLI.out.below hbn)).mono ?_
      rintro e w7 ⟨⟨AM, cm, rfl, htm⟩, hb⟩
      replace HT := Lib.hid (HT.out.lift hb)
      replace hbn := hbn.trans (hb.mono hbn.size)
      have hba : Below w7.heap.size w7 (w7.alloc (.cells #[.int .i64 0, .int .i64 0] 25)) := (Below.refl _ _).alloc (Nat.le_refl _) _
      have HSA := Lib.hid (same_any47 _ _ l ms false _ (HT.out.lift hba) (htm.lift hba))
      rw [HSM.out] at HSA
      replace HT := Lib.hid (HT.out.lift hba)
      replace hbn := hbn.trans (hba.mono hbn.size)
      clear hb hba htm HS2 HJ
      go_wp2_with fail
      refine HSA.out.mono ?_
      rintro e w8 ⟨rfl, hb⟩
      replace HT := Lib.hid (HT.out.lift hb)
      replace hbn := hbn.trans (hb.mono hbn.size)
      have HBN := Lib.hid hbn
      clear hb hbn HSA
      go_wp2_with fail
      go_loopw [14] (fun iv wr => ∃ j : Nat, j ≤ l.length ∧ iv = .int .i64 ((j : Int) + 1) ∧ Below w8.heap.size w8 wr) (fun iv _ => l.length + 1 - (intOf iv).toNat)
      case atStart => exact ⟨0, Nat.zero_le _, rfl, Below.refl _ _⟩
      case round =>
        obtain ⟨j, hj, rfl, hbj⟩ := hrel
        by_cases hjl : j + 1 < l.length
        · have HT2 := Lib.hid (HT.out.lift hbj)
          obtain ⟨b1, o1, r1, e1, hlb1, _, hc1⟩ := HT2.out.at_ (k := j) (by omega)
          obtain ⟨b2, o2, r2, e2, _, _, hc2⟩ := HT2.out.at_ (k := j + 1) hjl
          subst e1
          injection e2 with e2
          injection e2 with e2 e3
          subst e2 e3
          have hnx := HIN.out j (l[j]'(by omega)) (l[j + 1]'hjl) (List.getElem?_eq_getElem _) (List.getElem?_eq_getElem _)
          generalize l[j]'(by omega) = ta at *
          generalize l[j + 1]'hjl = tb at *
          obtain ⟨ka, _, _, _, _, la, ca⟩ := ta
          obtain ⟨_, _, _, _, _, lb, cb⟩ := tb
          unfold Nxt at hnx
          dsimp only at hnx
          have p0 := hc1 0 (by omega)
          have p5 := hc1 5 (by omega)
          have p6 := hc1 6 (by omega)
          have q5 := hc2 5 (by omega)
          have q6 := hc2 6 (by omega)
          simp only [tokVals, List.getElem?_cons_succ, List.getElem?_cons_zero, Nat.add_zero] at p0 p5 p6 q5 q6
          have hj0 : (0 : Int) ≤ (j : Int) := by omega
          have hj1 : (j : Int) < (l.length : Int) := by omega
          have hj2 : (j : Int) + 1 < (l.length : Int) := by omega
          clear hc1 hc2
          go_wp2_with fail
          have m0 := World.new_ne wr _ p0
          have m5 := World.new_ne wr _ p5
          have m6 := World.new_ne wr _ p6
          have n5 := World.new_ne wr _ q5
          have n6 := World.new_ne wr _ q6
          have hw1 : IntKind.i64.wrap (j : Int) = (j : Int) := IntWalk.i64_in _ (by omega)
          have hw2 : ((j : Int) + 1).toNat = j + 1 := by omega
          have hw3 : (0 : Int) ≤ (j : Int) + 1 := by omega
          go_region_held3 (fun w' => w'.cell? ⟨b1, o1 + j * 7, Option.none⟩ = some (.int .i64 ka) ∧ w'.cell? ⟨b1, o1 + j * 7 + 5, Option.none⟩ = some (.int .i64 la) ∧ w'.cell? ⟨b1, o1 + j * 7 + 6, Option.none⟩ = some (.int .i64 ca) ∧ w'.cell? ⟨b1, o1 + (j + 1) * 7 + 5, Option.none⟩ = some (.int .i64 lb) ∧ w'.cell? ⟨b1, o1 + (j + 1) * 7 + 6, Option.none⟩ = some (.int .i64 cb)) (go_keep) (fail)
          all_goals
            clear hw1 hw2 hw3 m0 m5 m6 n5 n6
            rcases hnx with ⟨h1, h2⟩ | ⟨h1, h2⟩
            · subst h1
              go_wp2_with fail
              go_roundw
              case rel => exact ⟨j + 1, by omega, by go_num, below_to_drew2 ((hbj.alloc hbj.size _).alloc (by have := hbj.size; simp; omega) _)⟩
              case measure => simp [intOf]; omega
            · have hk6 : (ka != 6) = false := by simpa using h2
              have hl1 : (lb == la) = false := by rw [beq_eq_false_iff_ne]; omega
              clear h2
              go_wp2_with fail
              go_roundw
              case rel => exact ⟨j + 1, by omega, by go_num, below_to_drew2 ((hbj.alloc hbj.size _).alloc (by have := hbj.size; simp; omega) _)⟩
              case measure => simp [intOf]; omega
        · have hnl : ¬ (j : Int) + 1 < (l.length : Int) := by omega
          go_wp2_with fail
          go_ret
          exact ⟨rfl, HBN.out.trans (hbj.mono HBN.out.size)⟩

set_option maxRecDepth 100000 in
set_option maxHeartbeats 2000000 in
theorem lxBlk_bad (s : List UInt8) (sd : Nat) (w : World) (hS : Std w) (hL : LenIs w) (hs : s.length ≤ 300) (a b c : Int) (hg : scanRead s = .bad a b c) :
    Calls Tryz.prog 7 #[.string ⟨s.toArray⟩, .int .u16 sd] w fun e w' => e = .returned (.bool true) ∧ Below w.heap.size w w' := by
  have HK := Lib.hid (known47 w hS hL)
  have HS := Lib.hid hS
  have HLI : Hid (LenIs w) := Lib.hid hL
  have HS1 := Lib.hid (fun W hW hLW => scan_any s W hW hLW (by omega))
  rw [hg] at HS1
  have hc0 : (c != 0) = true := by simpa using scanRead_bad hg
  have hsi : (s.length : Int) ≤ 300 := by omega
  clear hS hL hg
  go_enter Tryz.func7, Tryz.ntmps7
  go_wp2_with fail
  refine HK.out.mono ?_
  rintro e w1 ⟨rfl, hbw⟩
  clear HK
  go_wp2_with fail
  refine (HS1.out _ (HS.out.below hbw (Nat.le_refl _)) (HLI.out.below hbw)).mono ?_
  rintro e w2 ⟨he, hb⟩
  obtain rfl := show e = .returned (.tuple #[.slice Option.none 0 0, .agg #[.int .i64 a, .int .i64 b], .int .i64 c]) from he
  replace hbw := hbw.trans (hb.mono hbw.size)
  clear hb he
  go_wp2_with fail
  go_ret
  exact ⟨rfl, hbw.alloc hbw.size _⟩

set_option maxRecDepth 100000 in
set_option maxHeartbeats 1000000 in
theorem lxBlk_walk (s0 : List UInt8) (n1 : Nat) (w : World) (hS : Std w) (hL : ∃ m, w.cell? ⟨0, 0, Option.none⟩ = some (.int .i64 m)) (_h0 : s0.length ≤ maxLen) (_h1 : n1 ≤ 65535) :
    Calls Tryz.prog 7 #[.string ⟨s0.toArray⟩, .int .u16 n1] w fun e w' => e = .returned (.bool true) ∧ Below w.heap.size w w' := by
  by_cases hs : s0.length ≤ 300
  · cases hg : scanRead s0 with
    | bad a b c => exact lxBlk_bad s0 n1 w hS hL hs a b c hg
    | good l => exact lxBlk_good s0 n1 w hS hL hs l hg
  · have HK := Lib.hid (fun W h1 h2 => known47 W h1 h2)
    have HS := Lib.hid hS
    have HLI : Hid (LenIs w) := Lib.hid hL
    have hsi : 300 < (s0.length : Int) := by omega
    clear hS hL hs
    go_enter Tryz.func7, Tryz.ntmps7
    go_wp2_with fail
    refine (HK.out _ HS.out HLI.out).mono ?_
    rintro e w1 ⟨rfl, hbw⟩
    go_wp2_with fail
    refine (HK.out _ (HS.out.below hbw (Nat.le_refl _)) (HLI.out.below hbw)).mono ?_
    rintro e w2 ⟨rfl, hb⟩
    go_wp2_with fail
    go_ret
    exact ⟨rfl, hbw.trans (hb.mono hbw.size)⟩

end Go.Proofs.YtagfnnongamneaaGreatDoor
