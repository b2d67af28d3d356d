import Derived.Test.YteiajndkjnlmiaaGreatDoorXT09A
set_option linter.unusedVariables false
set_option linter.unusedSimpArgs false
namespace Go.Abs.T09
open Go Go.Abs
theorem awake_all : callN tab 300 (.fn 8 [] []) [] [] = some (.bool true, [], 0) := by kernel_rfl
end Go.Abs.T09
