/-
  The layer of ranks: pipe, Sounding, rebuilt. Conditions: in each statement.
-/
import Derived.Test.YtcnlhgmkelkikaaGreatDoorRkC
import Derived.Test.YtcnlhgmkelkikaaGreatDoorRkA
set_option linter.unusedSimpArgs false
set_option linter.unusedVariables false
namespace Go.Proofs.YtcnlhgmkelkikaaGreatDoor
open Go Go.Am Go.Vm
attribute [local irreducible] VVal VOps VOpsD VWp VCalls VFun VFunV QSeq QBlk QLoop Vm.Done DoneV DoneI
attribute [local irreducible] rchk windsE shz shiftR
def rLen (r:Rnk):Prop:=r.name.length<9223372036854775808∧r.tone.length<9223372036854775808∧r.wind.length<9223372036854775808
noncomputable def pipE (r:Rnk) (n:Int):Int:=if rchk r≠0 then rchk r else if n<0∨n≥r.wind.length then 10 else 0
def zeroF:FV:=.agg [.str ⟨#[]⟩,.str ⟨#[]⟩,.int .i64 0,.int .i64 0,.int .i64 0,.val (.slice none 0 0)]
def rebR (r:Rnk) (n:Int) (w:List Int):FV×Int:=if w.length>128 then (zeroF,4) else if ¬ firOk n then (zeroF,3) else (.agg (Enc.enc { r with first:=n,wind:=w }),0)
noncomputable def sndR (r:Rnk) (k:Int):Int×Bool×Int:=if pipE r k≠0 then (0,false,pipE r k) else if (shiftR r.feet ⟨8,1⟩).2≠0∨r.first+k+(shiftR r.feet ⟨8,1⟩).1<0∨r.first+k+(shiftR r.feet ⟨8,1⟩).1>127 then (0,false,(shiftR r.feet ⟨8,1⟩).2) else (r.first+k+(shiftR r.feet ⟨8,1⟩).1,true,0)
end Go.Proofs.YtcnlhgmkelkikaaGreatDoor
