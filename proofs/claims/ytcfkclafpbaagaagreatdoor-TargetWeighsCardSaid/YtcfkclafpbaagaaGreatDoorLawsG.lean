/- MonzoLaws: the walk. -/
import Derived.Test.YtcfkclafpbaagaaGreatDoorGH
import Derived.Test.YtcfkclafpbaagaaGreatDoorGD
import Derived.Test.YtcfkclafpbaagaaGreatDoorGG
namespace Go.Proofs.YtcfkclafpbaagaaGreatDoor
open Go.RowKit Go.Lib

theorem rat_eql1 (w : World) : (binOp .eql 53 (.agg #[.string ⟨#[49]⟩, .string ⟨#[49]⟩]) (.agg #[.string ⟨#[49]⟩, .string ⟨#[49]⟩])).run Tryz.prog w = .ok (.bool true) w := by kernel_rfl


end Go.Proofs.YtcfkclafpbaagaaGreatDoor
