/- ScoreTokens: frame, second part. -/
import Derived.Test.YtaaeekahhhookaaGreatDoorScTokFrameTk
namespace Go.Proofs.YtaaeekahhhookaaGreatDoor
open Go.ChangeShapes Go.WideShapes Go.ChangeAt Go.RowKit

set_option maxRecDepth 100000 in
set_option maxHeartbeats 4000000 in
theorem scTok_closed : joinedFacts Tryz.pinned.checked.prog 3 Tryz.f3 (OpenSpec.ofChange Rows.scoreTokensSpec).bare Rows.scoreTokensRow = true := by
 unfold joinedFacts
 simp only [Bool.and_eq_true]
 repeat' apply And.intro
 all_goals as_aux_lemma => kernel_rfl

end Go.Proofs.YtaaeekahhhookaaGreatDoor
