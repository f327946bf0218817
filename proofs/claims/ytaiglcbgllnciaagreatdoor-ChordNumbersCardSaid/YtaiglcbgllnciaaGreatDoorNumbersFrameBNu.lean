/- ChordNumbers: frame, second part. -/
import Derived.Test.YtaiglcbgllnciaaGreatDoorNumbersFrameNu
namespace Go.Proofs.YtaiglcbgllnciaaGreatDoor
open Go.ChangeShapes Go.WideShapes Go.ChangeAt Go.RowKit

set_option maxRecDepth 100000 in
set_option maxHeartbeats 4000000 in
theorem numbers_closed : joinedFacts Tryz.pinned.checked.prog 6 Tryz.f6 (OpenSpec.ofChange Rows.chordNumbersSpec).bare Rows.chordNumbersRow = true := by
  unfold joinedFacts
  simp only [Bool.and_eq_true]
  repeat' apply And.intro
  all_goals as_aux_lemma => kernel_rfl

end Go.Proofs.YtaiglcbgllnciaaGreatDoor
