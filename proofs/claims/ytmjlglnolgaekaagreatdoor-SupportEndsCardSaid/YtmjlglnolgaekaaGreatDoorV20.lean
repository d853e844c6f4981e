/- Just and Trivial, reckoned. -/
import Derived.Test.YtmjlglnolgaekaaGreatDoorV11
set_option linter.unusedSimpArgs false
set_option linter.unusedVariables false
set_option maxRecDepth 1000000
namespace Go.Vm
theorem facts9 : factsB [3, 5, 7, 13] = true := by decide +kernel
theorem facts4 : factsB [2, 5, 7] = true := by decide +kernel
theorem facts5 : factsB [3, 5, 7] = true := by decide +kernel
end Go.Vm
