/- The statement FnExactCommitSizeCardSaid: for every input the law returns true and its arguments read behind the call as they read before; the variables that its row lists are tied to the program's text. -/
import Derived.Test.YtlipbhahenojhaaGreatDoorP8
set_option linter.unusedVariables false
set_option linter.unusedSimpArgs false
namespace Go.Proofs.YtlipbhahenojhaaGreatDoor
open Go Go.RowKit
theorem fnExactCommitSize_holds:Rows.FnExactCommitSizeCardSaid:=Qvv
end Go.Proofs.YtlipbhahenojhaaGreatDoor
