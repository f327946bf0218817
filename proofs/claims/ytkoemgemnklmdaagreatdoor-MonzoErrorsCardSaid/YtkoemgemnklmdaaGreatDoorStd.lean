/- The library's variables as every world of a call holds them; numbers written: strconv.FormatUint, decimal.Of, whole.Of. -/
import Derived.Test.YtkoemgemnklmdaaGreatDoorText
import Derived.Lib.AppendIntMem
import Derived.WalkSmall
namespace Go.Proofs.YtkoemgemnklmdaaGreatDoor
open Go.RowKit Go.Lib

/-- What the library's variables hold. -/
structure Std (w : World) : Prop where
  tab : Lib.TabIs Tryz.prog w "internal/strconv.uint64pow10" .u64 Lib.pow10Tab
  syn : ∃ te pe, w.cell? ⟨0, 0, Option.none⟩ = some (.iface te pe)
  rng : ∃ te pe, w.cell? ⟨1, 0, Option.none⟩ = some (.iface te pe)
  size : 3 < w.heap.size

theorem cell_lt {w : World} {a : Addr} {v : Value} (h : w.cell? a = some v) : a.block < w.heap.size := World.block_lt_of_cell? w a h

theorem Std.below {w w' : World} (h : Std w) {B : Nat} (hb : Below B w w') (hB : w.heap.size ≤ B) : Std w' := by
  refine ⟨var?_below hb (by kernel_rfl) (Nat.lt_of_lt_of_le h.size hB) h.tab, ?_, ?_, Nat.lt_of_lt_of_le h.size hb.size⟩
  · obtain ⟨te, pe, hc⟩ := h.syn
    exact ⟨te, pe, by rw [hb.cell (Nat.lt_of_lt_of_le (cell_lt hc) hB)]; exact hc⟩
  · obtain ⟨te, pe, hc⟩ := h.rng
    exact ⟨te, pe, by rw [hb.cell (Nat.lt_of_lt_of_le (cell_lt hc) hB)]; exact hc⟩
theorem Std.alloc {w : World} (h : Std w) (o : Obj) : Std (w.alloc o) := h.below ((Below.refl w.heap.size w).alloc (Nat.le_refl _) o) (Nat.le_refl _)
theorem Std.drewN {w : World} (h : Std w) (n : Nat) : Std (w.drewN n) := h.below (below_drewN (Below.refl w.heap.size w) n) (Nat.le_refl _)

theorem holds_zero0 (w : World) (T : TypeId) (nd : Nat) (hs : nd ≤ 24) : Sort.Holds (fun (b : UInt8) => Value.int .u8 (b.toNat : Int)) (w.alloc (.cells zeros24 T)) w.heap.size 0 (Array.replicate nd (0 : UInt8)) := fun j hj => by
  have hj' : j < nd := by simpa using hj
  refine ⟨?_, World.frozen?_alloc_new _ _ _ _⟩
  rw [World.cell?_alloc_new, zeros24_at _ (by omega), getElem!_pos _ j hj]
  simp

theorem nDigits_le20 {u : Nat} (h : u < 18446744073709551616) : nDigits u ≤ 20 := by
  have : nDigits u ≤ nDigits 18446744073709551615 := nDigits_mono (by omega)
  have h2 : nDigits 18446744073709551615 = 20 := nDigits_unique 19 _ (by decide) (by decide)
  omega

set_option maxHeartbeats 1000000 in
theorem formatUint_any (u : Nat) (w : World) (hu64 : u < 18446744073709551616) (hS : Std w) :
    Calls Tryz.prog 169 #[.int .u64 u, .int .i64 10] w fun e w' => e = .returned (.string ⟨(decDigits u).toArray⟩) ∧ Below w.heap.size w w' := by
  have htab := hS.tab
  clear hS
  by_cases h100 : u < 100
  · clear htab
    go_enter Tryz.func169, Tryz.ntmps169
    go_wp2_with (go_at_call 162; refine (Tryz.internal_strconv_small u h100 _).mono ?_; rintro e w' ⟨rfl, rfl⟩)
    go_ret
    exact ⟨rfl, Below.refl _ _⟩
  · have hu1 : 1 ≤ u := by omega
    have hnd := nDigits_le20 hu64
    have hnd1 := nDigits_pos u
    have hal : Tryz.prog.arrayLen 191 = 24 := by kernel_rfl
    have hsl : ∀ W, (Instr.sliceAt 191 (.pointer (some ⟨w.heap.size, 0, Option.none⟩)) Option.none (some (.int .i64 ((nDigits u : Nat) : Int))) Option.none).run Tryz.prog W = .ok (.slice (some ⟨w.heap.size, 0, Option.none⟩) (nDigits u) 24) W := fun W => by
      rw [run_sliceAt_array_h W 191 ⟨w.heap.size, 0, Option.none⟩ (by kernel_rfl) .i64 ((nDigits u : Nat) : Int) (by omega) (by rw [hal]; omega)]
      go_simp
    have hH0 := holds_zero0 w 191 (nDigits u) (by omega)
    have hfmt := Tryz.internal_strconv_formatBase10 w.heap.size 0 24 u (Array.replicate (nDigits u) 0) (w.alloc (.cells zeros24 191)) hH0 (by rw [Array.size_replicate]; exact lt_pow_nDigits u) hu64 (by rw [Array.size_replicate]; omega)
    rw [Array.size_replicate] at hfmt
    have HH0 := Lib.hid hH0
    have HF := Lib.hid hfmt
    clear hH0 hal hfmt
    go_enter Tryz.func169, Tryz.ntmps169
    go_wp2_with (first | (go_at_call 163; refine (Tryz.internal_strconv_numDigits u hu1 hu64 _ (Lib.tabIs_alloc htab _)).mono ?_; rintro e w' ⟨rfl, rfl⟩))
    go_at_call 164
    refine HF.out.mono ?_
    rintro e w' ⟨rfl, k, v', dk, rfl, hF⟩
    have hcv : (convert 134 9 (.slice (some ⟨w.heap.size, 0, Option.none⟩) (nDigits u) 24)).run Tryz.prog ((Sort.putRow (fun (b : UInt8) => Value.int .u8 (b.toNat : Int)) (w.alloc (.cells zeros24 191)) w.heap.size 0 dk).drewN k) = .ok (.string ⟨(decDigits u).toArray⟩) ((Sort.putRow (fun (b : UInt8) => Value.int .u8 (b.toNat : Int)) (w.alloc (.cells zeros24 191)) w.heap.size 0 dk).drewN k) := by
      have h := run_convert_bytes_back (P := Tryz.prog) ((Sort.putRow (fun (b : UInt8) => Value.int .u8 (b.toNat : Int)) (w.alloc (.cells zeros24 191)) w.heap.size 0 dk).drewN k) 134 9 5 ⟨w.heap.size, 0, Option.none⟩ 24 (decDigits u) Tryz.underlying134 Tryz.underlying5 Tryz.underlying9 (fun j hj => by
        rw [Lib.row_is_numeral hF j hj, Lib.add_plain, World.cell?_drewN]
        exact Sort.cell?_putRow (fun (b : UInt8) => Value.int .u8 (b.toNat : Int)) _ w.heap.size 0 _ dk HH0.out (by rw [hF.size, Array.size_replicate]) j (by rw [hF.size]; rw [Lib.decDigits_length] at hj; exact hj))
      rw [Lib.decDigits_length] at h
      exact h
    go_wp2
    go_ret
    obtain ⟨os, eo⟩ := Lib.fin_at w (.cells zeros24 191) dk k 0
    refine ⟨rfl, ?_⟩
    rw [eo]
    exact Lib.below_grow _ w (Nat.le_refl _) k os

end Go.Proofs.YtkoemgemnklmdaaGreatDoor
