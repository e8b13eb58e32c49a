/- The row and the card. -/
import Derived.WalkKit
import Derived.ProofKit
import Derived.SevenTiedAt
import Derived.Test.YtkenmmfplnheaaaGreatDoorCards
import Derived.Test.YtkenmmfplnheaaaGreatDoorTie
import Derived.Test.YtkenmmfplnheaaaGreatDoorRow1
set_option linter.unusedVariables false
namespace Go.Proofs.YtkenmmfplnheaaaGreatDoor
open Go.RowKit Go.ChangeShapes Go.WideShapes Go.ChangeAt
theorem row_holds : Rows.PlainAgreeSaid :=
 OpenClaim.holds_of_wide 4 Tryz.f4 rfl rfl rfl rfl rfl rfl rfl ⟨rfl, rfl, rfl, rfl, rfl⟩ rfl rfl rfl rfl rfl (by kernel_rfl) Tryz.func4 (by kernel_rfl)
  (of_decide_eq_true (by kernel_rfl)) (by unfold Func.isWrapper; first | (rw [if_pos (by decide +kernel)]; kernel_rfl) | (rw [if_neg (by decide +kernel)]; exact ⟨rfl, rfl⟩))
  (fun os started H enc _ => lifted os started H enc)
end Go.Proofs.YtkenmmfplnheaaaGreatDoor
