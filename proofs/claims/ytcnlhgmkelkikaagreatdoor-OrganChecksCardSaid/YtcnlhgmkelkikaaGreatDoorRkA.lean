/-
  slices.Concat of one list and of two. Conditions: in each statement.
-/
import Derived.Test.YtcnlhgmkelkikaaGreatDoorIntB
import Derived.Test.YtcnlhgmkelkikaaGreatDoorFraA
import Derived.Test.YtcnlhgmkelkikaaGreatDoorVmE
set_option linter.unusedSimpArgs false
set_option linter.unusedVariables false
namespace Go.Proofs.YtcnlhgmkelkikaaGreatDoor
open Go Go.Am Go.Vm
attribute [local irreducible] VVal VOps VOpsD VWp VCalls VFun VFunV QSeq QBlk QLoop Vm.Done DoneV DoneI VUn
end Go.Proofs.YtcnlhgmkelkikaaGreatDoor
