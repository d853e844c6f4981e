/- SupportEnds, the tied card: whatever the two numbers, the call returns true and leaves them as they were; what the listed variables hold is tied to the program's text. No condition beyond the card's own. -/
import Derived.Test.YtmjlglnolgaekaaGreatDoorV23
import Derived.Test.YtmjlglnolgaekaaGreatDoorCards
import Derived.Test.YtmjlglnolgaekaaGreatDoorTie
import Derived.SevenTiedAt
set_option linter.unusedSimpArgs false
set_option linter.unusedVariables false
namespace Go.Proofs.YtmjlglnolgaekaaGreatDoor
open Go
theorem supportEnds_card : Rows.SupportEndsCardSaid :=
  Claim7.holds_tied_plain_at .later [] [.data, .data, .data, .sentinel, .sentinel] true (true, "896977013ded211cc752ca214bf88906ed340d315e4b7266144fa95720a459ad") true
    supportEnds.proved (fun _ h => by cases h) (by kernel_rfl) (fun _ h => by cases h) supportEnds_row_tie rfl ⟨rfl, rfl⟩ (by kernel_rfl) rfl
    (fun f fn hf hfn => by
      obtain rfl : f = 7 := Option.some.inj ((show Tryz.prog.funcNamed "schisma/schismalaw22.SupportEnds" = some 7 by kernel_rfl).symm.trans hf) |>.symm
      obtain rfl : fn = Tryz.f7 := (Option.some.inj (Tryz.func7.symm.trans hfn)).symm
      exact ⟨by kernel_rfl, fun j t ht => by
        rw [Tryz.params7] at ht
        match j with
        | 0 => simp at ht; subst ht; exact (show Tryz.prog.wantsStandIn 5 = false by kernel_rfl)
        | 1 => simp at ht; subst ht; exact (show Tryz.prog.wantsStandIn 71 = false by kernel_rfl)
        | j + 2 => simp at ht⟩)
    (by kernel_rfl)
end Go.Proofs.YtmjlglnolgaekaaGreatDoor
