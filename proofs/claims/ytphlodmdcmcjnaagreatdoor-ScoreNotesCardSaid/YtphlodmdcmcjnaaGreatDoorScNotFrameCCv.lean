/- ScoreNotes: frame, third part. -/
import Derived.Test.YtphlodmdcmcjnaaGreatDoorScNotFrameBCv
namespace Go.Proofs.YtphlodmdcmcjnaaGreatDoor
open Go.ChangeShapes Go.WideShapes Go.ChangeAt Go.RowKit

set_option maxRecDepth 100000 in
set_option maxHeartbeats 4000000 in
theorem scNot_said (walk : ScNotWalk) : Rows.ScoreNotesSaid :=
  OpenClaim.holds_of_cond 11 Tryz.f11 rfl rfl rfl rfl rfl rfl rfl ⟨rfl, rfl, rfl, rfl, rfl⟩ rfl rfl rfl rfl rfl (by kernel_rfl) Tryz.func11 scNot_closed
    (of_decide_eq_true (by kernel_rfl)) (by unfold Func.isWrapper; first | (rw [if_pos (by decide +kernel)]; kernel_rfl) | (rw [if_neg (by decide +kernel)]; exact ⟨rfl, rfl⟩))
    (fun os started H enc _ F => by rw [OpenClaim.pre_eq_preRow]; exact scNot_lifted walk os started H enc F)


end Go.Proofs.YtphlodmdcmcjnaaGreatDoor
