/- schismalaw48.at. (Printed by gen_at48.py out of score.sounding's walk.) schismalaw48.same of equal lists. -/
import Derived.Test.YtphlodmdcmcjnaaGreatDoorGXDMCv
import Derived.Test.YtphlodmdcmcjnaaGreatDoorGXFCv
import Derived.Test.YtphlodmdcmcjnaaGreatDoorGXECv
namespace Go.Proofs.YtphlodmdcmcjnaaGreatDoor
open Go.RowKit Go.Lib

theorem all_short {vs : List Vc} {dss : List (List Nat)} (hsh : ShortV vs dss) {l : List Nat} (hl : l ∈ dss.map strt) : 0 < l.length ∧ l.length ≤ 1001 := by
  obtain ⟨ds, hds, rfl⟩ := List.mem_map.1 hl
  rw [strt_len]
  obtain ⟨k, hk, rfl⟩ := List.getElem_of_mem hds
  have hk2 : k < vs.length := by rw [hsh.tv.len]; exact hk
  obtain ⟨ds2, e2, ht⟩ := hsh.tv.at_ hk2
  rw [List.getElem?_eq_getElem hk] at e2
  injection e2 with e2
  have h1 := hsh.evs _ (List.getElem_mem hk2)
  have h2 := ht.len
  rw [← e2] at h2
  omega

end Go.Proofs.YtphlodmdcmcjnaaGreatDoor

namespace Go.Proofs.YtphlodmdcmcjnaaGreatDoor
open Go.RowKit Go.Lib

theorem snd_neq (a b : Int) (w : World) : (binOp .neq 146 (.agg #[.int .i64 a, .int .i64 b]) (.agg #[.int .i64 a, .int .i64 b])).run Tryz.prog w = .ok (.bool false) w := by
  have hS : Tryz.prog.underlying 146 = some (.struct (Tryz.prog.fieldsOf 146)) := by kernel_rfl
  have hp : Tryz.prog.stoodInHeld 146 = false := by kernel_rfl
  rw [run_neq_struct, show (10000 : Nat) = 9999 + 1 from rfl, run_equalIn_agg w 9999 146 _ _ hS hp]
  simp only [Program.fieldsOf, Tryz.underlying146]
  have u := Tryz.underlying3
  go_simp
theorem SnT.lift {w w' : World} {A : Option Addr} {l : List (Nat × Nat)} (h : SnT w w.heap.size A l) (hb : Below w.heap.size w w') : SnT w' w'.heap.size A l := LT.keep h (E := []) (KpT.of_below hb) (by simp) hb.size fun _ _ _ h => h
theorem SnT.at_ {w : World} {B : Nat} {A : Option Addr} {l : List (Nat × Nat)} (h : SnT w B A l) {k : Nat} (hk : k < l.length) : ∃ b o, A = some ⟨b, o, Option.none⟩ ∧ b < B ∧ w.cell? ⟨b, o + k * 2, Option.none⟩ = some (.int .i64 (l[k]'hk).1) ∧ w.cell? ⟨b, o + k * 2 + 1, Option.none⟩ = some (.int .i64 (l[k]'hk).2) := by
  obtain ⟨b, o, cs, e, h1, h2, h3, h4, rfl⟩ := h.get k _ (List.getElem?_eq_getElem hk)
  exact ⟨b, o, e, h1, h4 0 (by decide), h4 1 (by decide)⟩

set_option maxRecDepth 100000 in
set_option maxHeartbeats 2000000 in
theorem same48_eq (A B : Option Addr) (c d : Nat) (x : List (Nat × Nat)) (w : World) (hx : SnT w w.heap.size A x) (hy : SnT w w.heap.size B x) (hl : x.length ≤ 10000000) :
    Calls Tryz.prog 24 #[.slice A x.length c, .slice B x.length d] w fun e w' => e = .returned (.bool true) ∧ Below w.heap.size w w' := by
  have HX := Lib.hid hx
  have HY := Lib.hid hy
  clear hx hy
  go_enter Tryz.func24, Tryz.ntmps24
  go_wp2_with fail
  go_loopw [5] (fun i wr => ∃ k : Nat, k ≤ x.length ∧ i = .int .i64 k ∧ Below w.heap.size w wr) (fun i _ => x.length - (intOf i).toNat)
  case atStart => exact ⟨0, Nat.zero_le _, rfl, Below.refl _ _⟩
  case round =>
    obtain ⟨k, hk, rfl, hbw⟩ := hrel
    by_cases hlt : k < x.length
    · obtain ⟨b1, o1, rfl, _, p0, p1⟩ := (SnT.lift HX.out hbw).at_ hlt
      obtain ⟨b2, o2, rfl, _, q0, q1⟩ := (SnT.lift HY.out hbw).at_ hlt
      have hki : (k : Int) < (x.length : Int) := by omega
      have hk0 : (0 : Int) ≤ (k : Int) := by omega
      generalize x[k]'hlt = u at *
      obtain ⟨u1, u2⟩ := u
      dsimp only at *
      have hne : ∀ W, (binOp .neq 146 (.agg #[.int .i64 u1, .int .i64 u2]) (.agg #[.int .i64 u1, .int .i64 u2])).run Tryz.prog W = .ok (.bool false) W := fun W => snd_neq u1 u2 W
      go_wp2_with fail
      go_region
      go_wp2_with fail
      go_roundw
      case rel => exact ⟨k + 1, by omega, by go_num, below_to_drew hbw⟩
      case measure => simp [intOf]; omega
    · obtain rfl : k = x.length := by omega
      go_wp2_with fail
      go_ret
      exact ⟨rfl, hbw⟩

end Go.Proofs.YtphlodmdcmcjnaaGreatDoor
