/- From what a row lists of the package-level variables to 'Std'; the witness's world. -/
import Derived.Test.YteenfcmnmenigaaGreatDoorRows
import Derived.Test.YteenfcmnmenigaaGreatDoorGC
import Derived.Stop.LaidErr
import Derived.Lib.LaidTab
import Derived.Lay
import Derived.LaidLaws
namespace Go.Proofs.YteenfcmnmenigaaGreatDoor
open Go.RowKit Go.Lib

def seatLaid : List (String × DataW Unit) := [("math/bits.deBruijn32tab", Rows.laid_math_bits_deBruijn32tab), ("math/bits.deBruijn64tab", Rows.laid_math_bits_deBruijn64tab), ("internal/strconv.uint64pow10", Rows.laid_internal_strconv_uint64pow10), ("strconv.ErrRange", Rows.laid_strconv_ErrRange), ("strconv.ErrSyntax", Rows.laid_strconv_ErrSyntax)]

theorem errName (u : TypeId) (h : Tryz.prog.typeName? 3 u = some "*errors.errorString") : u = 225 :=
  typeName_ptr_named (nm := "errors.errorString") (by kernel_rfl) (by kernel_rfl) (by decide) u h

theorem std_of_laid {W : World} (h : laidMet Tryz.prog seatLaid W) : Std W := by
  have h3 := h.tail.tail
  have htab : Lib.TabIs Tryz.prog W "internal/strconv.uint64pow10" .u64 Lib.pow10Tab :=
    Lib.tabIs_of_head (g := 3) (t := 229) (e := 131) (n := 20) (by kernel_rfl) (by kernel_rfl) Tryz.underlying229 Tryz.underlying131 (by kernel_rfl) (by kernel_rfl) h3
  have h4 := h3.tail
  obtain ⟨a4, s4, hv4, _⟩ := laid_sentinel (g := 1) (ti := 79) (tp := 225) (te := 227) (ts := 9) h4 (by kernel_rfl) (by kernel_rfl) Tryz.underlying79 errName Tryz.underlying225 Tryz.underlying227 rfl rfl Tryz.underlying9 (by kernel_rfl) (by kernel_rfl)
  have h5 := h4.tail
  obtain ⟨a5, s5, hv5, _⟩ := laid_sentinel (g := 0) (ti := 79) (tp := 225) (te := 227) (ts := 9) h5 (by kernel_rfl) (by kernel_rfl) Tryz.underlying79 errName Tryz.underlying225 Tryz.underlying227 rfl rfl Tryz.underlying9 (by kernel_rfl) (by kernel_rfl)
  have hg3 : Tryz.prog.globalNamed "internal/strconv.uint64pow10" = some 3 := by kernel_rfl
  have hc := htab.cell hg3 0 (by decide)
  have hx5 : W.cell? ⟨0, 0, Option.none⟩ = some (.iface 225 (.pointer (some a5))) := by simpa using World.var?_cell (g := 0) (by kernel_rfl) hv5 0
  have hx4 : W.cell? ⟨1, 0, Option.none⟩ = some (.iface 225 (.pointer (some a4))) := by simpa using World.var?_cell (g := 1) (by kernel_rfl) hv4 0
  exact ⟨htab, ⟨_, _, hx5⟩, ⟨_, _, hx4⟩, cell_lt hc⟩

end Go.Proofs.YteenfcmnmenigaaGreatDoor
