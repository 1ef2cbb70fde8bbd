/-
  The surroundings with the iterator's answers; contracts lifted. Conditions: in each statement.
-/
import Derived.Test.YtemfebbakfhknaaDoorScaS
set_option linter.unusedSimpArgs false
set_option linter.unusedVariables false
namespace Go.Proofs.YtemfebbakfhknaaDoor
open Go Go.Am Go.Vm Go.Sca
theorem enters_meas:Am.Enters Tryd.prog 46:=⟨_,Tryd.func46,by kernel_rfl,by kernel_rfl⟩
theorem meas_nt:∀ fn,Tryd.prog.funcs[46]?=some fn→fn.ntmps=26:=fun fn h=>by
 rw [Tryd.func46] at h
 cases h
 exact Tryd.ntmps46
noncomputable def O1:Oracle:=seqO (globList Tryd.prog 8 laidL) (globMem Tryd.prog 8 laidL) 46 26 meaSq env.O
theorem osound1:OSound Tryd.prog (globList Tryd.prog 8 laidL) O1:=seqO_sound osound enters_meas meas_nt measures_seq
noncomputable abbrev env1:Env:=lawEnvX Tryd.prog 8 laidL O1
theorem le1:OLe Tryd.prog env.O O1:=seqO_le (env_none (by decide)) meas_nt
theorem lift1 {f:FuncId} {xs:List FV} {r:PV} (h:VFun env f xs r):VFun env1 f xs r:=VCalls.more (F:=8) (laid:=laidL) (O0:=env.O) le1 h
theorem env1_none {f:FuncId} (h:f∉46::libL.map (·.1)):env1.O f=none:=by
 simp only [List.mem_cons,not_or] at h
 show O1 f=none
 unfold O1
 rw [seqO_ne h.1]
 exact env_none h.2
end Go.Proofs.YtemfebbakfhknaaDoor
