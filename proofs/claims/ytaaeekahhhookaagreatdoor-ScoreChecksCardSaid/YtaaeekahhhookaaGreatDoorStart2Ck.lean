import Derived.Test.YtaaeekahhhookaaGreatDoorStartCk
import Derived.Test.YtaaeekahhhookaaGreatDoorShelf2
namespace Go.Proofs.YtaaeekahhhookaaGreatDoor
open Go.RowKit Go.Lib
def seatLaid2 : List (String × DataW Unit) := [("math/bits.deBruijn32tab", Rows.laid_math_bits_deBruijn32tab), ("math/bits.deBruijn64tab", Rows.laid_math_bits_deBruijn64tab), ("internal/strconv.uint64pow10", Rows.laid_internal_strconv_uint64pow10), ("unicode/utf8.acceptRanges", Rows.laid_unicode_utf8_acceptRanges), ("strconv.ErrRange", Rows.laid_strconv_ErrRange), ("strconv.ErrSyntax", Rows.laid_strconv_ErrSyntax), ("unicode/utf8.first", Rows.laid_unicode_utf8_first)]
theorem std_of_laid2 {W : World} (h : laidMet Tryz.prog seatLaid2 W) : Std W := by
 have h3 := h.tail.tail
 have htab : Lib.TabIs Tryz.prog W "internal/strconv.uint64pow10" .u64 Lib.pow10Tab :=
  Lib.tabIs_of_head (g := 3) (t := 319) (e := 229) (n := 20) (by kernel_rfl) (by kernel_rfl) Tryz.underlying319 Tryz.underlying229 (by kernel_rfl) (by kernel_rfl) h3
 have h4 := h3.tail.tail
 obtain ⟨a4, s4, hv4, _⟩ := laid_sentinel (g := 2) (ti := 130) (tp := 332) (te := 334) (ts := 9) h4 (by kernel_rfl) (by kernel_rfl) Tryz.underlying130 errName Tryz.underlying332 Tryz.underlying334 rfl rfl Tryz.underlying9 (by kernel_rfl) (by kernel_rfl)
 have h5 := h4.tail
 obtain ⟨a5, s5, hv5, _⟩ := laid_sentinel (g := 1) (ti := 130) (tp := 332) (te := 334) (ts := 9) h5 (by kernel_rfl) (by kernel_rfl) Tryz.underlying130 errName Tryz.underlying332 Tryz.underlying334 rfl rfl Tryz.underlying9 (by kernel_rfl) (by kernel_rfl)
 have hg3 : Tryz.prog.globalNamed "internal/strconv.uint64pow10" = some 3 := by kernel_rfl
 have hc := htab.cell hg3 0 (by decide)
 have hx5 : W.cell? ⟨1, 0, Option.none⟩ = some (.iface 332 (.pointer (some a5))) := by simpa using World.var?_cell (g := 1) (by kernel_rfl) hv5 0
 have hx4 : W.cell? ⟨2, 0, Option.none⟩ = some (.iface 332 (.pointer (some a4))) := by simpa using World.var?_cell (g := 2) (by kernel_rfl) hv4 0
 exact ⟨htab, ⟨_, _, hx5⟩, ⟨_, _, hx4⟩, cell_lt hc⟩
theorem len_of_shaped {W : World} (h : W.ShapedOpen Tryz.prog) : ∃ m, W.cell? ⟨0, 0, Option.none⟩ = some (.int .i64 m) := Tryz.laysM146.s1_3 W h
end Go.Proofs.YtaaeekahhhookaaGreatDoor
