/-
  slices.Concat of one list and of two. Conditions: in each statement.
-/
import Derived.Test.YtabjkjgpaahbhaaDoorIntB
import Derived.Test.YtabjkjgpaahbhaaDoorFraA
import Derived.Test.YtabjkjgpaahbhaaDoorVmE
set_option linter.unusedSimpArgs false
set_option linter.unusedVariables false
namespace Go.Proofs.YtabjkjgpaahbhaaDoor
open Go Go.Am Go.Vm
attribute [local irreducible] VVal VOps VOpsD VWp VCalls VFun VFunV QSeq QBlk QLoop Vm.Done DoneV DoneI VUn

set_option maxRecDepth 100000 in
set_option maxHeartbeats 2000000 in
theorem concat2_spec (a b : List Int) (h0 : 0 < a.length + b.length) (h1 : a.length + b.length ≤ 1000) :
    VFunV env 49 [.lst 29 [.lst 3 (cells a) a.length, .lst 3 (cells b) b.length] 2] 3 (cells (a ++ b)) (a.length + b.length) false := by
  have hg := grow_fun (a.length + b.length) h0 (by omega)
  rw [show ((a.length + b.length : Nat) : Int) = 0 + (a.length : Int) + (b.length : Int) by omega] at hg
  refine VFunV.enter (env_none (by decide)) Tryd.func49 rfl (by kernel_rfl) (by simp [Tryd.ntmps49]) ?_
  repeat' (first
    | apply VWp.assoc
    | apply VWp.rseq
    | apply VWp.blockSeq
    | apply VOps.nil
    | apply VOps.one
    | (apply VVal.assign; rfl)
    | (apply VVal.move; rfl)
    | (apply VVal.lenF; rfl; rfl))
  refine VWp.loopN 2 ?_
  repeat' (first
    | apply VWp.assoc
    | apply VWp.rseq
    | apply VWp.region
    | apply VWp.skipSeq
    | apply VWp.exitSeq
    | apply VWp.blockSeq
    | apply QSeq.normal
    | apply QBlk.normal
    | apply QBlk.exit
    | apply QLoop.exit
    | apply VWp.skip
    | apply VOps.nil
    | apply VOps.one
    | (apply VVal.fv; rfl; rfl; exact hg)
    | (apply VUn.zero)
    | (apply VUn.succ)
    | (apply QLoop.again)
    | (apply VVal.indexF ; rfl ; rfl ; rfl ; decide ; decide)
    | (apply VVal.assign; rfl)
    | (apply VVal.move; rfl)
    | (apply VVal.add64; rfl; rfl; omega)
    | (apply VVal.int; rfl; rfl; rfl)
    | (apply VVal.load; rfl; rfl)
    | (apply VVal.lenF; rfl; rfl)
    | (apply VWp.condSeq_true; rfl)
    | (apply VWp.condSeq_false; rfl)
    | (apply VWp.cond_false; rfl))
  refine VWp.loopN 2 ?_
  repeat' (first
    | apply VWp.rseq
    | apply VWp.region
    | apply VWp.skipSeq
    | apply VWp.exitSeq
    | apply VWp.blockSeq
    | apply QSeq.normal
    | apply QBlk.normal
    | apply QBlk.exit
    | apply QLoop.exit
    | apply VWp.ret
    | apply VOps.nil
    | apply VOps.one
    | (apply VUn.zero)
    | (apply VUn.succ)
    | (apply QLoop.again)
    | (apply VVal.indexF ; rfl ; rfl ; rfl ; decide ; decide)
    | (apply VVal.appendL (l := a) (r := b) ; rfl ; rfl ; rfl ; rfl ; rfl ; rfl ; rfl ; (intro _ h ; cases h) ; rfl ; rfl ; rfl ; decide ; decide ; omega)
    | (apply VVal.appendL0 (r := a) ; rfl ; rfl ; rfl ; rfl ; rfl ; rfl ; (intro _ h ; cases h) ; rfl ; rfl ; rfl ; decide ; decide ; omega)
    | (apply VVal.assign; rfl)
    | (apply VVal.move; rfl)
    | (apply VVal.add64; rfl; rfl; omega)
    | (apply VVal.int; rfl; rfl; rfl)
    | (apply VVal.load; rfl; rfl)
    | (apply VWp.condSeq_true; rfl)
    | (apply VWp.condSeq_false; rfl))
  exact DoneV.ret rfl rfl rfl rfl

set_option maxRecDepth 100000 in
set_option maxHeartbeats 2000000 in
theorem concat1_spec (a : List Int) (h0 : 0 < a.length) (h1 : a.length ≤ 1000) :
    VFunV env 49 [.lst 29 [.lst 3 (cells a) a.length] 1] 3 (cells a) a.length false := by
  have hg := grow_fun a.length h0 (by omega)
  rw [show ((a.length : Nat) : Int) = 0 + (a.length : Int) by omega] at hg
  refine VFunV.enter (env_none (by decide)) Tryd.func49 rfl (by kernel_rfl) (by simp [Tryd.ntmps49]) ?_
  repeat' (first
    | apply VWp.assoc
    | apply VWp.rseq
    | apply VWp.blockSeq
    | apply VOps.nil
    | apply VOps.one
    | (apply VVal.assign; rfl)
    | (apply VVal.move; rfl)
    | (apply VVal.lenF; rfl; rfl))
  refine VWp.loopN 1 ?_
  repeat' (first
    | apply VWp.assoc
    | apply VWp.rseq
    | apply VWp.region
    | apply VWp.skipSeq
    | apply VWp.exitSeq
    | apply VWp.blockSeq
    | apply QSeq.normal
    | apply QBlk.normal
    | apply QBlk.exit
    | apply QLoop.exit
    | apply VWp.skip
    | apply VOps.nil
    | apply VOps.one
    | (apply VVal.fv; rfl; rfl; exact hg)
    | (apply VUn.zero)
    | (apply VUn.succ)
    | (apply QLoop.again)
    | (apply VVal.indexF ; rfl ; rfl ; rfl ; decide ; decide)
    | (apply VVal.assign; rfl)
    | (apply VVal.move; rfl)
    | (apply VVal.add64; rfl; rfl; omega)
    | (apply VVal.int; rfl; rfl; rfl)
    | (apply VVal.load; rfl; rfl)
    | (apply VVal.lenF; rfl; rfl)
    | (apply VWp.condSeq_true; rfl)
    | (apply VWp.condSeq_false; rfl)
    | (apply VWp.cond_false; rfl))
  refine VWp.loopN 1 ?_
  repeat' (first
    | apply VWp.rseq
    | apply VWp.region
    | apply VWp.skipSeq
    | apply VWp.exitSeq
    | apply VWp.blockSeq
    | apply QSeq.normal
    | apply QBlk.normal
    | apply QBlk.exit
    | apply QLoop.exit
    | apply VWp.ret
    | apply VOps.nil
    | apply VOps.one
    | (apply VUn.zero)
    | (apply VUn.succ)
    | (apply QLoop.again)
    | (apply VVal.indexF ; rfl ; rfl ; rfl ; decide ; decide)
    | (apply VVal.appendL0 (r := a) ; rfl ; rfl ; rfl ; rfl ; rfl ; rfl ; (intro _ h ; cases h) ; rfl ; rfl ; rfl ; decide ; decide ; omega)
    | (apply VVal.assign; rfl)
    | (apply VVal.move; rfl)
    | (apply VVal.add64; rfl; rfl; omega)
    | (apply VVal.int; rfl; rfl; rfl)
    | (apply VVal.load; rfl; rfl)
    | (apply VWp.condSeq_true; rfl)
    | (apply VWp.condSeq_false; rfl))
  exact DoneV.ret rfl rfl rfl rfl
end Go.Proofs.YtabjkjgpaahbhaaDoor
