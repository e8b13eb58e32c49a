/- The row and the card. -/
import Derived.WalkKit
import Derived.ProofKit
import Derived.SevenTiedAt
import Derived.Test.YtkenmmfplnheaaaGreatDoorCards
import Derived.Test.YtkenmmfplnheaaaGreatDoorTie
import Derived.Test.YtkenmmfplnheaaaGreatDoorRow2
set_option linter.unusedVariables false
namespace Go.Proofs.YtkenmmfplnheaaaGreatDoor
open Go.RowKit Go.ChangeShapes Go.WideShapes Go.ChangeAt
theorem plainAgree_card : Rows.PlainAgreeCardSaid :=
  Claim7.holds_tied_plain_at .later [] [.data, .data, .widerDeep, .widerDeep, .data, .data, .data, .data, .data, .sentinel, .sentinel, .pinned, .pinned] true (true, "f97bb968da29559e4f66652f6c5ee9401403d1345e472c38cc680f93c3f878c4") true row_holds (fun _ h => by cases h) (by kernel_rfl) (fun _ h => by cases h) plainAgree_row_tie rfl ⟨rfl, rfl⟩ (by kernel_rfl) rfl
    (fun f fn hf hfn => by
      obtain rfl : f = 4 := Option.some.inj ((show Tryz.prog.funcNamed "scree/screelaw15.PlainAgree" = some 4 by kernel_rfl).symm.trans hf) |>.symm
      obtain rfl : fn = Tryz.f4 := (Option.some.inj (Tryz.func4.symm.trans hfn)).symm
      exact ⟨by kernel_rfl, fun j t ht => by
        rw [Tryz.params4] at ht
        have hm : t ∈ [28] := by
          have h2 := Array.mem_of_getElem? ht
          simp at h2
          simpa using h2
        have hall : ([28].all fun u => !Tryz.prog.wantsStandIn u) = true := by kernel_rfl
        exact (show Tryz.prog.wantsStandIn t = false by simpa using List.all_eq_true.1 hall t hm)⟩)
    (by kernel_rfl)
#print axioms plainAgree_card
end Go.Proofs.YtkenmmfplnheaaaGreatDoor
