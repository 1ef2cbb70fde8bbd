/-
  The layer of ranks: Total; the law's table of feet. Conditions: in each statement.
-/
import Derived.Test.YtcnlhgmkelkikaaGreatDoorRkF
set_option linter.unusedSimpArgs false
set_option linter.unusedVariables false
namespace Go.Proofs.YtcnlhgmkelkikaaGreatDoor
open Go Go.Am Go.Vm
attribute [local irreducible] VVal VOps VOpsD VWp VCalls VFun VFunV QSeq QBlk QLoop Vm.Done DoneV DoneI
attribute [local irreducible] rchk windsE shz shiftR pipE
def sumK (l:List Int):Nat→Int
 |0=>0
 |k+1=>sumK l k+gi l k
theorem sumK_bd {l:List Int} (h:okW l):∀ k,k≤l.length→0≤sumK l k∧sumK l k≤k*1000000
 |0,_=>by simp [sumK]
 |k+1,hk=>by
  have h1:=sumK_bd h k (by omega)
  have h2:=h k (by omega)
  unfold badW at h2
  simp only [sumK]
  omega
noncomputable def totR (r:Rnk):Int×Int:=if rchk r≠0 then (0,rchk r) else (sumK r.wind r.wind.length,0)
def feetL:List Frac:=[⟨8,1⟩,⟨4,1⟩,⟨16,1⟩,⟨2,1⟩,⟨8,3⟩,⟨8,5⟩,⟨4,3⟩,⟨1,1⟩,⟨32,1⟩,⟨16,3⟩,⟨16,5⟩,⟨32,3⟩,⟨8,7⟩,⟨2,3⟩,⟨1,2⟩,⟨64,1⟩]
set_option maxRecDepth 100000 in
set_option maxHeartbeats 1000000 in
theorem feet_spec (n:Nat) (hn:n<256):VFun env 85 [.int .u8 (n:Int)] (.p (.agg (Enc.enc (gi feetL (n % 16))))):=by
 refine VFun.enter (env_none (by decide)) Tryz.func85 rfl (by kernel_rfl) (by simp [Tryz.ntmps85]) ?_
 have hlt:n % 16<16:=Nat.mod_lt _ (by decide)
 repeat' (first
  |(refine VOps.atOp 22 ?_;refine VOps.ghost (Ghost.freeze 19 rfl rfl) ?_)
  |apply VWp.rseq
  |apply VWp.ret
  |apply VOps.nil
  |apply VOps.one
  |(apply VVal.indexN (l:=feetL) (i:=n % 16);rfl;rfl;rfl;exact hlt;rfl)
  |(apply VVal.move;rfl)
  |(apply VVal.remI;rfl;rfl;omega;omega)
  |(apply VVal.load;rfl;rfl)
  |(apply VVal.alloc;rfl)
  |(apply VVal.storeB;rfl;rfl;rfl;trivial;rfl;rfl;exact lt_dec rfl;exact le_dec rfl)
  |(apply VVal.build;rfl;rfl;rfl;rfl;rfl)
  |(apply VVal.buildSlice;rfl;rfl;rfl;decide;rfl;rfl;rfl))
 all_goals (refine Done.ret rfl (.refl _) (by first|exact trivial|exact ⟨trivial,trivial,trivial⟩|exact ⟨trivial,trivial,trivial,trivial⟩) HCov.nil (Nat.zero_le _) (Nat.le_refl _) ⟨?_,rfl,rfl⟩;try rfl)
end Go.Proofs.YtcnlhgmkelkikaaGreatDoor
