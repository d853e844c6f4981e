/- The chapter's examples, reckoned. -/
import Derived.Test.YtmjlglnolgaekaaGreatDoorV11
set_option linter.unusedSimpArgs false
set_option linter.unusedVariables false
set_option maxRecDepth 1000000
namespace Go.Vm
theorem known_ev : evI T2 200 11 [] (.bool true) = true := by decide +kernel
end Go.Vm
