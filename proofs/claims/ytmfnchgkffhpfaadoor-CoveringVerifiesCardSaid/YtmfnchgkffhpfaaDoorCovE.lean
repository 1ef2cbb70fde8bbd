/-
  What the law's Make computes. Conditions: in each statement.
-/
import Derived.Test.YtmfnchgkffhpfaaDoorCovD
set_option linter.unusedSimpArgs false
set_option linter.unusedVariables false
set_option linter.unusedSectionVars false
namespace Go.Proofs.YtmfnchgkffhpfaaDoor
open Go Go.Am Go.Vm
attribute [local irreducible] VVal VOps VOpsD VWp VCalls VFun VFunV QSeq QBlk QLoop Vm.Done DoneV
structure CBits where
 els:Nat
 cost:Nat
instance:Enc CBits:={ default:=⟨0,0⟩,enc:=fun b=>[.int .u8 b.els,.int .u8 b.cost],size:=2,len:=fun _=>rfl }
structure CPlan where
 n:Nat
 sets:List CBits
instance:Enc CPlan:={ default:=⟨0,[]⟩,enc:=fun x=>[.int .u8 x.n,.lst 69 (cells x.sets) x.sets.length],size:=2,len:=fun _=>rfl }
def mkSet (n:Nat) (b:CBits):CSet:=⟨chosenK b.els n,1+(b.cost:Int) % 5⟩
def setsM (x:CPlan) (k:Nat):List CSet:=(x.sets.take k).map (mkSet (x.n % 8))
def makeM (x:CPlan):CProb:=⟨(x.n:Int) % 8,setsM x 7⟩
theorem setsM_len (x:CPlan) (k:Nat) (h:k≤x.sets.length):(setsM x k).length=k:=by simp [setsM];omega
theorem setsM_succ (x:CPlan) (k:Nat) (h:k<x.sets.length):setsM x (k+1)=setsM x k++[mkSet (x.n % 8) (gi x.sets k)]:=by
 simp only [setsM];rw [take_succ_gi h,List.map_append];rfl
set_option maxRecDepth 100000 in
theorem make_spec (x:CPlan) (hl:x.sets.length<1000) (hn:x.n<256) (h:∀ i,i<x.sets.length→(gi x.sets i).els<256∧(gi x.sets i).cost<256) :
 VFun env 11 [.agg (Enc.enc x)] (.p (.agg (Enc.enc (makeM x)))):=by
 refine VFun.enter (env_none (by decide)) Tryd.func11 rfl (by kernel_rfl) (by simp [Tryd.ntmps11]) ?_
 repeat' (first
  |apply VWp.assoc
  |apply VWp.rseq
  |apply VWp.blockSeq
  |apply VOps.nil
  |apply VOps.one
  |(apply VVal.assign;rfl)
  |(apply VVal.remI;rfl;rfl;omega;omega)
  |(apply VVal.load;rfl;rfl)
  |(apply VVal.fieldB;rfl;rfl;rfl)
  |(apply VVal.box;rfl;trivial)
  |(apply VVal.alloc;rfl)
  |(apply VVal.storeB;rfl;rfl;rfl;trivial;rfl;rfl;exact lt_dec rfl;exact le_dec rfl)
  |(apply VVal.build;rfl;rfl;rfl;rfl;rfl)
  |(apply VVal.convI;rfl;rfl;rfl;rfl;omega))
 refine VWp.ghost (Ghost.adoptCell 2 1 35 rfl rfl) ?_
 refine VWp.loopQ (fun k:Nat=>[(1,.ref 0 0),(2,.ref 1 0),(3,.ref 2 0),(4,.p (.int .i64 k))])
  (fun k=>[(0,.box 24 ((Enc.enc x).map .p)),(1,.box 29 [.p (.int .i64 0),.p (.val (.slice none 0 0))]),(2,.box 29 [.p (.int .i64 ((x.n:Int) % 8)),.vec 3 (setsM x k).length 0 (setsM x k).length]),(3,.vec 35 (cells (setsM x k)) (setsM x k).length true)])
  4 (fun k=>k≤x.sets.length∧k≤7) (fun k=>7-k) 0 (by omega) ⟨by omega,by omega⟩ ⟨by omega,?_,?_⟩ ?_
 ·repeat (first|exact LCov.nil|refine LCov.same trivial rfl ?_|refine LCov.same (lt_dec rfl) rfl ?_|refine LCov.same ⟨trivial,lt_dec rfl,lt_dec rfl,lt_dec rfl,trivial⟩ rfl ?_|refine LCov.same ⟨trivial,lt_dec rfl,lt_dec rfl,trivial⟩ rfl ?_|refine LCov.same ⟨trivial,trivial⟩ rfl ?_|refine LCov.cons trivial rfl (.of_eq (lst_len (by simp<;>omega))) ?_)
 ·repeat (first|exact HCov.nil|(refine HCov.cons (lt_dec rfl) ?_ rfl ?_ ?_;(first|exact trivial|exact PVs.under_pure _ _|(simp [HB.under,PVs.under,PV.under]));(first|exact HLe.refl _|exact HLe.vec (FLes.refl _) (by simp))))
 rintro k ⟨hk,hk7⟩
 have hlen:=setsM_len x k hk
 by_cases hlt:k<x.sets.length∧k<7
 ·obtain ⟨hlt,hlt7⟩:=hlt
  obtain ⟨hb1,hb2⟩:=h k hlt
  repeat' (first
   |apply VWp.assoc
   |apply VWp.rseq
   |apply VWp.skipSeq
   |apply VWp.blockSeq
   |apply VOps.nil
   |apply VOps.one
   |(apply VOps.take;rfl;rfl)
   |(apply VOps.guard;rfl;rfl)
   |(apply VVal.assign;rfl)
   |(apply VVal.move;rfl)
   |(apply VVal.add64;rfl;rfl;omega)
   |(apply VVal.remI;rfl;rfl;omega;omega)
   |(apply VVal.int;rfl;rfl;rfl)
   |(apply VVal.indexN;rfl;rfl;rfl;omega;rfl)
   |(apply VVal.load;rfl;rfl)
   |(apply VVal.pick_true;rfl;rfl)
   |(apply VVal.lenF;rfl;rfl)
   |(apply VVal.fieldB;rfl;rfl;rfl)
   |(apply VVal.fieldF;rfl;rfl)
   |(apply VVal.alloc;rfl)
   |(apply VVal.storeB;rfl;rfl;rfl;trivial;rfl;rfl;exact lt_dec rfl;exact le_dec rfl)
   |(apply VVal.build;rfl;rfl;rfl;rfl;rfl)
   |(apply VVal.convI;rfl;rfl;rfl;rfl;omega)
   |(apply VWp.condSeq_dec;rfl)
   |(intro _;try (exfalso;omega)))
  refine VWp.ghost (Ghost.adoptCell 4 0 3 rfl rfl) ?_
  refine VWp.loopQ (fun j:Nat=>[(1,.ref 0 0),(2,.ref 1 0),(3,.ref 2 0),(4,.p (.int .i64 k)),(5,.ref 4 0),(6,.p (.int .i64 j))])
   (fun j=>[(0,.box 24 ((Enc.enc x).map .p)),(1,.box 29 [.p (.int .i64 0),.p (.val (.slice none 0 0))]),(2,.box 29 [.p (.int .i64 ((x.n:Int) % 8)),.vec 3 (setsM x k).length 0 (setsM x k).length]),(3,.vec 35 (cells (setsM x k)) (setsM x k).length true),
    (4,.box 35 [.vec 5 (chosenK (gi x.sets k).els j).length 0 (chosenK (gi x.sets k).els j).length,.p (.int .i64 (1+((gi x.sets k).cost:Int) % 5))]),(5,.vec 3 (cells (chosenK (gi x.sets k).els j)) (chosenK (gi x.sets k).els j).length true)])
   6 (fun j=>j≤x.n % 8) (fun j=>x.n % 8-j) 0 (by omega) (by omega) ⟨by omega,?_,?_⟩ ?_
  ·repeat (first|exact LCov.nil|refine LCov.same trivial rfl ?_|refine LCov.same (lt_dec rfl) rfl ?_|refine LCov.same ⟨trivial,lt_dec rfl,lt_dec rfl,lt_dec rfl,trivial⟩ rfl ?_|refine LCov.same ⟨trivial,lt_dec rfl,lt_dec rfl,trivial⟩ rfl ?_|refine LCov.same ⟨trivial,trivial⟩ rfl ?_|refine LCov.cons trivial rfl (.of_eq (lst_len (by simp<;>omega))) ?_)
  ·repeat (first|exact HCov.nil|(refine HCov.cons (lt_dec rfl) ?_ rfl ?_ ?_;(first|exact trivial|exact PVs.under_pure _ _|(simp [HB.under,PVs.under,PV.under]));(first|exact HLe.refl _|exact HLe.vec (FLes.refl _) (by simp))))
  intro j hj
  have hclen:=chosenK_len (gi x.sets k).els j
  have hdl:(gi x.sets k).els / 2 ^ j≤(gi x.sets k).els:=Nat.div_le_self _ _
  repeat' (first
   |(refine VWp.atEnd 11 ?_;refine VWp.ghost (Ghost.freezeCell 4 0 rfl rfl rfl) ?_;first|apply VWp.region|apply VWp.regionD)
   |apply VWp.assoc
   |apply VWp.rseq
   |apply VWp.region
   |apply VWp.skipSeq
   |apply VWp.exitSeq
   |apply VWp.blockSeq
   |apply QSeq.normal
   |apply QBlk.normal
   |apply QBlk.exit
   |apply QLoop.exit
   |apply VWp.skip
   |apply VOps.nil
   |apply VOps.one
   |(apply VVal.append1 (a:=mkSet j (gi x.sets k));rfl;rfl;rfl;rfl;rfl;rfl;rfl;rfl;(intro _ h;cases h);rfl;rfl;rfl;decide;decide;(first|omega|(simp only [List.length_take,List.length_drop,List.length_append,List.length_singleton,List.length_cons,List.length_nil]<;>omega)))
   |(apply VVal.assign;rfl)
   |(apply VVal.move;rfl)
   |(apply VVal.add64;rfl;rfl;omega)
   |(apply VVal.and1B;rfl;rfl;omega)
   |(apply VVal.int;rfl;rfl;rfl)
   |(apply VVal.indexN;rfl;rfl;rfl;omega;rfl)
   |(apply VVal.load;rfl;rfl)
   |(apply VVal.fieldB;rfl;rfl;rfl)
   |(apply VVal.fieldF;rfl;rfl)
   |(apply VVal.storeB;rfl;rfl;rfl;trivial;rfl;rfl;exact lt_dec rfl;exact le_dec rfl)
   |(apply VVal.buildSlice;rfl;rfl;rfl;decide;rfl;rfl;rfl)
   |(apply VVal.append1;rfl;rfl;rfl;rfl;rfl;rfl;rfl;rfl;(intro _ h;cases h);rfl;rfl;rfl;decide;decide;(first|omega|(simp only [List.length_take,List.length_drop,List.length_append,List.length_singleton,List.length_cons,List.length_nil]<;>omega)))
   |(apply VVal.shrN;rfl;rfl;(simp only [IntKind.bits];omega))
   |(apply VWp.condSeq_dec;rfl)
   |(apply VWp.cond_dec;rfl)
   |(intro _;try (exfalso;omega)))
  ·rename_i hbit
   have e:chosenK (gi x.sets k).els (j+1)=chosenK (gi x.sets k).els j++[(j:Int)]:=by simp only [chosenK];rw [if_pos (by omega)]
   have e2:(chosenK (gi x.sets k).els (j+1)).length=(chosenK (gi x.sets k).els j).length+1:=by rw [e];simp
   refine QLoop.normal ⟨j+1,by omega,by omega,⟨by omega,?_,?_⟩⟩
   ·repeat (first|exact LCov.nil|refine LCov.same trivial rfl ?_|refine LCov.same (lt_dec rfl) rfl ?_|refine LCov.same ⟨trivial,lt_dec rfl,lt_dec rfl,lt_dec rfl,trivial⟩ rfl ?_|refine LCov.same ⟨trivial,lt_dec rfl,lt_dec rfl,trivial⟩ rfl ?_|refine LCov.same ⟨trivial,trivial⟩ rfl ?_|refine LCov.cons trivial rfl (.of_eq (lst_len (by simp<;>omega))) ?_)
   ·rw [e2,e];repeat (first|exact HCov.nil|(refine HCov.cons (lt_dec rfl) ?_ rfl ?_ ?_;(first|exact trivial|exact PVs.under_pure _ _|(simp [HB.under,PVs.under,PV.under]));(first|exact HLe.refl _|exact HLe.vec (FLes.refl _) (by simp))))
  ·rename_i hbit
   have e:chosenK (gi x.sets k).els (j+1)=chosenK (gi x.sets k).els j:=by simp only [chosenK];rw [if_neg (by omega)]
   refine QLoop.normal ⟨j+1,by omega,by omega,⟨by omega,?_,?_⟩⟩
   ·repeat (first|exact LCov.nil|refine LCov.same trivial rfl ?_|refine LCov.same (lt_dec rfl) rfl ?_|refine LCov.same ⟨trivial,lt_dec rfl,lt_dec rfl,lt_dec rfl,trivial⟩ rfl ?_|refine LCov.same ⟨trivial,lt_dec rfl,lt_dec rfl,trivial⟩ rfl ?_|refine LCov.same ⟨trivial,trivial⟩ rfl ?_|refine LCov.cons trivial rfl (.of_eq (lst_len (by simp<;>omega))) ?_)
   ·rw [e];repeat (first|exact HCov.nil|(refine HCov.cons (lt_dec rfl) ?_ rfl ?_ ?_;(first|exact trivial|exact PVs.under_pure _ _|(simp [HB.under,PVs.under,PV.under]));(first|exact HLe.refl _|exact HLe.vec (FLes.refl _) (by simp))))
  ·have hj':j=x.n % 8:=by omega
   subst hj'
   have e:setsM x (k+1)=setsM x k++[mkSet (x.n % 8) (gi x.sets k)]:=setsM_succ x k hlt
   have e2:(setsM x (k+1)).length=(setsM x k).length+1:=by rw [e];simp
   refine QLoop.normal ⟨k+1,⟨by omega,by omega⟩,by omega,⟨by omega,?_,?_⟩⟩
   ·repeat (first|exact LCov.nil|refine LCov.same trivial rfl ?_|refine LCov.same (lt_dec rfl) rfl ?_|refine LCov.same ⟨trivial,lt_dec rfl,lt_dec rfl,lt_dec rfl,trivial⟩ rfl ?_|refine LCov.same ⟨trivial,lt_dec rfl,lt_dec rfl,trivial⟩ rfl ?_|refine LCov.same ⟨trivial,trivial⟩ rfl ?_|refine LCov.cons trivial rfl (.of_eq (lst_len (by simp<;>omega))) ?_)
   ·rw [e2,e];repeat (first|exact HCov.nil|(refine HCov.cons (lt_dec rfl) ?_ rfl ?_ ?_;(first|exact trivial|exact PVs.under_pure _ _|(simp [HB.under,PVs.under,PV.under]));(first|exact HLe.refl _|exact HLe.vec (FLes.refl _) (by simp))))
 ·repeat' (first
   |(refine VWp.at 12 ?_;refine VWp.ghost (Ghost.freezeCell 2 1 rfl rfl rfl) ?_;first|apply VWp.rseq|apply VWp.rseqD)
   |apply VWp.assoc
   |apply VWp.rseq
   |apply VWp.exitSeq
   |apply QSeq.normal
   |apply QBlk.exit
   |apply QLoop.exit
   |apply VWp.ret
   |apply VOps.nil
   |apply VOps.one
   |(apply VOps.take;rfl;rfl)
   |(apply VOps.drop;rfl;rfl;rfl)
   |(apply VOps.guard;rfl;rfl)
   |(apply VVal.move;rfl)
   |(apply VVal.int;rfl;rfl;rfl)
   |(apply VVal.load;rfl;rfl)
   |(apply VVal.pick_true;rfl;rfl)
   |(apply VVal.pick_false;rfl;rfl)
   |(apply VVal.lenF;rfl;rfl)
   |(apply VVal.fieldB;rfl;rfl;rfl)
   |(apply VVal.storeB;rfl;rfl;rfl;trivial;rfl;rfl;exact lt_dec rfl;exact le_dec rfl)
   |(apply VWp.condSeq_false;rfl)
   |(apply VWp.condSeq_dec;rfl)
   |(intro _;try (exfalso;omega)))
  all_goals (
   have e7:setsM x 7=setsM x k:=by
    simp only [setsM]
    rcases Nat.lt_or_ge k 7 with h7|h7
    ·rw [List.take_of_length_le (by omega),List.take_of_length_le (by omega)]
    ·rw [show k=7 by omega]
   refine Done.ret rfl (.refl _) (by first|exact trivial|exact ⟨trivial,trivial,trivial⟩|exact ⟨trivial,trivial,trivial,trivial⟩) HCov.nil (Nat.zero_le _) (Nat.le_refl _) ⟨?_,rfl,rfl⟩
   show PV.p (.agg [.int .i64 ((x.n:Int) % 8),.lst 35 (cells (setsM x k)) (setsM x k).length])=_
   rw [← e7]
   rfl)
end Go.Proofs.YtmfnchgkffhpfaaDoor
