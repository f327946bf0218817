/- ScoreTransposes: frame, second part. -/
import Derived.Test.YtaaeekahhhookaaGreatDoorScTraFrameTr
namespace Go.Proofs.YtaaeekahhhookaaGreatDoor
open Go.ChangeShapes Go.WideShapes Go.ChangeAt Go.RowKit

set_option maxRecDepth 100000 in
set_option maxHeartbeats 4000000 in
theorem scTra_closed : joinedFacts Tryz.pinned.checked.prog 4 Tryz.f4 (OpenSpec.ofChange Rows.scoreTransposesSpec).bare Rows.scoreTransposesRow = true := by
 unfold joinedFacts
 simp only [Bool.and_eq_true]
 repeat' apply And.intro
 all_goals as_aux_lemma => kernel_rfl

end Go.Proofs.YtaaeekahhhookaaGreatDoor
