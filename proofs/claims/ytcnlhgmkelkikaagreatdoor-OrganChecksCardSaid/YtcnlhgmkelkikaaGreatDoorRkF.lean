/-
  The layer of ranks: Note, Last, Wind, Total, Above. Conditions: in each statement.
-/
import Derived.Test.YtcnlhgmkelkikaaGreatDoorRkE
set_option linter.unusedSimpArgs false
set_option linter.unusedVariables false
namespace Go.Proofs.YtcnlhgmkelkikaaGreatDoor
open Go Go.Am Go.Vm
attribute [local irreducible] VVal VOps VOpsD VWp VCalls VFun VFunV QSeq QBlk QLoop Vm.Done DoneV DoneI
theorem pipE_ok {r:Rnk} {n:Int} (h:pipE r n=0):rchk r=0∧0≤n∧n<r.wind.length:=by
 unfold pipE at h
 split at h
 ·rename_i h1;exact absurd h h1
 ·rename_i h1
  split at h
  ·cases h
  ·exact ⟨Classical.not_not.1 h1,by omega,by omega⟩
attribute [local irreducible] rchk windsE shz shiftR pipE
noncomputable def notR (r:Rnk) (n:Int):Int×Int:=if pipE r n≠0 then (0,pipE r n) else (r.first+n,0)
noncomputable def wndR (r:Rnk) (n:Int):Int×Int:=if pipE r n≠0 then (0,pipE r n) else (gi r.wind n.toNat,0)
noncomputable def aboR (r:Rnk) (w:List Int):FV×Int:=if rchk r≠0 then (zeroF,rchk r) else if windsE w≠0 then (zeroF,windsE w) else rebR r r.first (r.wind++w)
end Go.Proofs.YtcnlhgmkelkikaaGreatDoor
