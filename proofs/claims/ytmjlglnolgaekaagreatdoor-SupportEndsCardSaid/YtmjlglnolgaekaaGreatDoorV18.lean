/- Just and Trivial, reckoned. -/
import Derived.Test.YtmjlglnolgaekaaGreatDoorV11
set_option linter.unusedSimpArgs false
set_option linter.unusedVariables false
set_option maxRecDepth 1000000
namespace Go.Vm
theorem facts6 : factsB [2, 3, 5, 11] = true := by decide +kernel
theorem facts3 : factsB [2, 3, 7] = true := by decide +kernel
end Go.Vm
