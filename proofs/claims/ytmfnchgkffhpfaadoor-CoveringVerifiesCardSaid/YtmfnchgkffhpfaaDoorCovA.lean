/-
  What small functions of the layer and of its reference compute. Conditions: in each statement.
-/
import Derived.Test.YtmfnchgkffhpfaaDoorEnv
set_option linter.unusedSimpArgs false
set_option linter.unusedVariables false
set_option linter.unusedSectionVars false
namespace Go.Proofs.YtmfnchgkffhpfaaDoor
open Go Go.Am Go.Vm
attribute [local irreducible] VVal VOps VOpsD VWp VCalls VFun VFunV QSeq QBlk QLoop Vm.Done
structure CSet where
 els:List Int
 cost:Int
instance:Enc CSet:={ default:=⟨[],0⟩,enc:=fun s=>[.lst 3 (cells s.els) s.els.length,.int .i64 s.cost],size:=2,len:=fun _=>rfl }
theorem mem_take_succ {l:List Int} {x:Int} {k:Nat} (hk:k<l.length):x∈l.take (k+1)↔x∈l.take k∨x=gi l k:=by
 rw [List.take_succ_eq_append_getElem hk,List.mem_append]
 simp [gi,List.getElem?_eq_getElem hk]
set_option maxRecDepth 100000 in
theorem has_spec (e:TypeId) (l:List Int) (x:Int) (hl:l.length<2^62):VFun env 32 [.lst e (cells l) l.length,.int .i64 x] (.p (.bool (decide (x∈l)))):=by
 refine VFun.enter (env_none (by decide)) Tryd.func32 rfl (by kernel_rfl) (by simp [Tryd.ntmps32]) ?_
 repeat' (first
  |apply VWp.assoc
  |apply VWp.rseq
  |apply VWp.blockSeq
  |apply VOps.nil
  |apply VOps.one
  |(apply VVal.assign;rfl))
 refine VWp.loopQ (fun k:Nat=>[(0,lst e l),(1,.p (.int .i64 x)),(5,.p (.int .i64 k))]) (fun _=>[]) 0 (fun k=>k≤l.length∧x∉l.take k) (fun k=>l.length-k) 0 (Nat.le_refl _) ⟨by omega,by simp⟩ ⟨Nat.le_refl _,?_,trivial⟩ ?_
 ·repeat (first|exact LCov.nil|refine LCov.same trivial rfl ?_|refine LCov.same (lt_dec rfl) rfl ?_|refine LCov.same ⟨trivial,lt_dec rfl,lt_dec rfl,lt_dec rfl,trivial⟩ rfl ?_|refine LCov.same ⟨trivial,lt_dec rfl,lt_dec rfl,trivial⟩ rfl ?_|refine LCov.same ⟨trivial,trivial⟩ rfl ?_|refine LCov.cons trivial rfl (.of_eq (lst_len (by simp<;>omega))) ?_)
 rintro k ⟨hk,hr⟩
 repeat' (first
  |apply VWp.assoc
  |apply VWp.rseq
  |apply VWp.region
  |apply VWp.skipSeq
  |apply VWp.exitSeq
  |apply VWp.blockSeq
  |apply QSeq.normal
  |apply QSeq.ret
  |apply QBlk.normal
  |apply QBlk.ret
  |apply QBlk.exit
  |apply QLoop.ret
  |apply QLoop.exit
  |apply VWp.ret
  |apply VWp.skip
  |apply VOps.nil
  |apply VOps.one
  |(apply VVal.assign;rfl)
  |(apply VVal.move;rfl)
  |(apply VVal.add64;rfl;rfl;omega)
  |(apply VVal.int;rfl;rfl;rfl)
  |(apply VVal.indexN;rfl;rfl;rfl;omega;rfl)
  |(apply VVal.load;rfl;rfl)
  |(apply VVal.lenF;rfl;rfl)
  |(apply VWp.condSeq_dec;rfl)
  |(apply VWp.cond_dec;rfl)
  |(intro _;try (exfalso;omega)))
 ·refine Done.ret rfl (.refl _) (by first|exact trivial|exact ⟨trivial,trivial,trivial⟩|exact ⟨trivial,trivial,trivial,trivial⟩) HCov.nil (Nat.zero_le _) (Nat.le_refl _) ⟨?_,rfl,rfl⟩
  rename_i h1 h2
  refine PV.bool_eq (Eq.symm (decide_eq_true ?_))
  exact List.mem_of_mem_take ((mem_take_succ (by omega)).2 (.inr h2.symm))
 ·rename_i h1 h2
  refine QLoop.normal ⟨k+1,⟨by omega,?_⟩,by omega,⟨Nat.le_refl _,?_,trivial⟩⟩
  ·rw [mem_take_succ (by omega)];exact fun h=>h.elim hr fun h=>h2 h.symm
  ·repeat (first|exact LCov.nil|refine LCov.same trivial rfl ?_|refine LCov.same (lt_dec rfl) rfl ?_|refine LCov.same ⟨trivial,lt_dec rfl,lt_dec rfl,lt_dec rfl,trivial⟩ rfl ?_|refine LCov.same ⟨trivial,lt_dec rfl,lt_dec rfl,trivial⟩ rfl ?_|refine LCov.same ⟨trivial,trivial⟩ rfl ?_|refine LCov.cons trivial rfl (.of_eq (lst_len (by simp<;>omega))) ?_)
 ·refine Done.ret rfl (.refl _) (by first|exact trivial|exact ⟨trivial,trivial,trivial⟩|exact ⟨trivial,trivial,trivial,trivial⟩) HCov.nil (Nat.zero_le _) (Nat.le_refl _) ⟨?_,rfl,rfl⟩
  rename_i h1
  refine PV.bool_eq (Eq.symm (decide_eq_false ?_))
  rwa [List.take_of_length_le (by omega)] at hr
def costK (L:List CSet) (s:List Int):Nat→Int
 |0=>0
 |k+1=>costK L s k+(gi L (gi s k).toNat).cost
theorem costK_bd {L:List CSet} {s:List Int} (h:∀ i,i<L.length→0≤(gi L i).cost∧(gi L i).cost≤1000000) (hs:∀ i,i<s.length→0≤gi s i∧gi s i<L.length):∀ k,k≤s.length→0≤costK L s k∧costK L s k≤k*1000000
 |0,_=>by simp [costK]
 |k+1,hk=>by
  have h1:=costK_bd h hs k (by omega)
  have h2:=hs k (by omega)
  have h3:=h (gi s k).toNat (by omega)
  simp only [costK]
  omega
set_option maxRecDepth 100000 in
theorem rcost_spec (e e':TypeId) (L:List CSet) (s:List Int) (hL:L.length<1000) (hl:s.length<1000) (h:∀ i,i<L.length→0≤(gi L i).cost∧(gi L i).cost≤1000000) (hs:∀ i,i<s.length→0≤gi s i∧gi s i<L.length) :
 VFun env 15 [.lst e (cells L) L.length,.lst e' (cells s) s.length] (.p (.int .i64 (costK L s s.length))):=by
 refine VFun.enter (env_none (by decide)) Tryd.func15 rfl (by kernel_rfl) (by simp [Tryd.ntmps15]) ?_
 repeat' (first
  |apply VWp.assoc
  |apply VWp.rseq
  |apply VWp.blockSeq
  |apply VOps.nil
  |apply VOps.one
  |(apply VVal.assign;rfl))
 refine VWp.loopQ (fun k:Nat=>[(0,lst e L),(1,lst e' s),(5,.p (.int .i64 (costK L s k))),(6,.p (.int .i64 k))]) (fun _=>[]) 0 (fun k=>k≤s.length) (fun k=>s.length-k) 0 (Nat.le_refl _) (by omega) ⟨Nat.le_refl _,?_,trivial⟩ ?_
 ·repeat (first|exact LCov.nil|refine LCov.same trivial rfl ?_|refine LCov.same (lt_dec rfl) rfl ?_|refine LCov.same ⟨trivial,lt_dec rfl,lt_dec rfl,lt_dec rfl,trivial⟩ rfl ?_|refine LCov.same ⟨trivial,lt_dec rfl,lt_dec rfl,trivial⟩ rfl ?_|refine LCov.same ⟨trivial,trivial⟩ rfl ?_|refine LCov.cons trivial rfl (.of_eq (lst_len (by simp<;>omega))) ?_)
 intro k hk
 have hbd:=costK_bd h hs k hk
 by_cases hlt:k<s.length
 ·have h1:=hs k hlt
  have h2:=h (gi s k).toNat (by omega)
  repeat' (first
   |apply VWp.assoc
   |apply VWp.rseq
   |apply VWp.region
   |apply VWp.skipSeq
   |apply VWp.blockSeq
   |apply QSeq.normal
   |apply QBlk.normal
   |apply VOps.nil
   |apply VOps.one
   |(apply VVal.assign;rfl)
   |(apply VVal.move;rfl)
   |(apply VVal.add64;rfl;rfl;omega)
   |(apply VVal.int;rfl;rfl;rfl)
   |(apply VVal.indexN;rfl;rfl;rfl;omega;rfl)
   |(apply VVal.indexE;rfl;rfl;rfl;omega;omega;rfl)
   |(apply VVal.load;rfl;rfl)
   |(apply VVal.lenF;rfl;rfl)
   |(apply VVal.fieldF;rfl;rfl)
   |(apply VWp.condSeq_dec;rfl)
   |(intro _;try (exfalso;omega)))
  ·refine QLoop.normal ⟨k+1,by omega,by omega,⟨Nat.le_refl _,?_,trivial⟩⟩
   repeat (first|exact LCov.nil|refine LCov.same trivial rfl ?_|refine LCov.same (lt_dec rfl) rfl ?_|refine LCov.same ⟨trivial,lt_dec rfl,lt_dec rfl,lt_dec rfl,trivial⟩ rfl ?_|refine LCov.same ⟨trivial,lt_dec rfl,lt_dec rfl,trivial⟩ rfl ?_|refine LCov.same ⟨trivial,trivial⟩ rfl ?_|refine LCov.cons trivial rfl (.of_eq (lst_len (by simp<;>omega))) ?_)
 ·repeat' (first
   |apply VWp.assoc
   |apply VWp.rseq
   |apply VWp.exitSeq
   |apply QSeq.normal
   |apply QBlk.exit
   |apply QLoop.exit
   |apply VWp.ret
   |apply VOps.nil
   |apply VOps.one
   |(apply VVal.assign;rfl)
   |(apply VVal.move;rfl)
   |(apply VVal.int;rfl;rfl;rfl)
   |(apply VVal.lenF;rfl;rfl)
   |(apply VWp.condSeq_dec;rfl)
   |(intro _;try (exfalso;omega)))
  ·refine Done.ret rfl (.refl _) (by first|exact trivial|exact ⟨trivial,trivial,trivial⟩|exact ⟨trivial,trivial,trivial,trivial⟩) HCov.nil (Nat.zero_le _) (Nat.le_refl _) ⟨?_,rfl,rfl⟩
   rw [show s.length=k by omega]
end Go.Proofs.YtmfnchgkffhpfaaDoor
