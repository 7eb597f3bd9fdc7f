/-
  Chapter 25: the answers that the document fixes, plain.
-/
import Derived.Test.YtmigbcoobbcahaaPlainOpt
namespace Go.Proofs.Ytmigbcoobbcahaa
open Go.RowKit Go.Sort
set_option linter.unusedVariables false

def abc : List UInt8 := [97, 98, 99]
def l1 : List OV := [(2, abc)]
def b1 : List UInt8 := [0, 2, 0, 3, 97, 98, 99, 0, 0, 0, 0, 0]
theorem known_wrong : wrongO l1 = 0 := by decide
theorem known_wrong2 : wrongO [((0 : Int), ([] : List UInt8))] = 1 := by decide
theorem known_put : putAll true l1 = b1 := by decide
theorem known_read : readO true b1 = (l1, (0, 0)) := by decide
theorem known_rows : rowsO true (b1 ++ [9]) = (l1, 12, (0, 0)) := by decide
theorem known_read2 : readO true [0, 0, 0, 1] = ([], (0, 3)) := by decide
theorem known_rows2 : rowsO false [] = ([], 0, (0, 2)) := by decide
theorem known_size : sizeO l1 = 8 := by decide
end Go.Proofs.Ytmigbcoobbcahaa
