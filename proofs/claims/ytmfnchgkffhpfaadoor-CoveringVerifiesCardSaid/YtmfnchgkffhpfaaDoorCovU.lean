/-
  What take, leave and free of the search compute; sorting by a comparison. Conditions: in each statement.
-/
import Derived.Test.YtmfnchgkffhpfaaDoorCovO
import Derived.Test.YtmfnchgkffhpfaaDoorCovST
import Derived.Test.YtmfnchgkffhpfaaDoorVmK
set_option linter.unusedSimpArgs false
set_option linter.unusedVariables false
set_option linter.unusedSectionVars false
namespace Go.Vm
open Go.Am
section
variable {E:Env} {L:Frame} {H:Heap} {nx:Nat} {Q:PV→Heap→Nat→Prop} {w:Bool}
variable {dst:Option Tmp} {ty:TypeId} {pos:String} {af:Array Edge} {gd:Option (Nat×Bool)}
theorem VVal.nilChkC {x:Operand} {cs:List FV} (hx:vev E.Γ L x=some (.p (.cptr cs))) (q:Q (.p (.cptr cs)) H nx):VVal E w ⟨dst,.nilCheck x,ty,pos,af,gd⟩ L H nx Q :=
 VVal.quiet q fun m F σ tt h1 h2=>by
  have hr:=vev_rel h1 h2 hx
  generalize hv:ev tt x=v at hr
  cases hr with
  |p hr =>
   cases hr with
   |cptr hF hm hg hw h hc=>exact ⟨_,fun _=>by simp only [aval,aop,hv],.p (.cptr hF hm hg hw h hc)⟩
theorem VVal.callSame {fo:Operand} {args:Array Operand} {aT:Array TypeId} {g:FuncId} {fs cs aa ac:List PV} {Qc:PV→Heap→Nat→Prop} (hf:vev E.Γ L fo=some (.clo g fs cs)) (ha:evs E.Γ L args.toList=some aa) (hle:PLes (fs++aa++cs) ac) (hc:VCalls E g ac H nx Qc)
 (hq:∀ r H' nx',Qc r H' nx'→Q r H' nx'):VVal E true ⟨dst,.call { callee:=.value fo,args:=args,argTypes:=aT },ty,pos,af,gd⟩ L H nx Q:=by
 intro m F σ t h1 h2
 have hfv:=vev_rel h1 h2 hf
 generalize hfe:ev t fo=fv at hfv
 cases hfv with
 |clo r1 r2 =>
  rename_i vf vc
  refine AVal.call (f:=g) («as»:=vf++args.toList.map (ev t)++vc) (fun call=>by simp only [aval,hfe]) ((hc m F _ _ h1 (RPs.le hle ((r1.append (evs_rel h1 h2 ha)).append r2))).mono ?_)
  rintro v m' ⟨r,H',nx',F',σ',q,c1,c2,c3⟩
  exact ⟨r,H',nx',F',σ',hq _ _ _ q,c1,c2,c3,fun h=>by cases h⟩
end
end Go.Vm
namespace Go.Proofs.YtmfnchgkffhpfaaDoor
open Go Go.Am Go.Vm
attribute [local irreducible] VVal VOps VOpsD VWp VCalls VFun VFunV QSeq QBlk QLoop Vm.Done DoneV DoneI
def srchC (p:CProb):List FV:=[.int .i64 p.n,.lst 35 (cells p.sets) p.sets.length,.lst 74 (cells (wordsL p.sets)) (wordsL p.sets).length]
set_option maxRecDepth 100000 in
theorem take_spec (p:CProb) (x:CSt) (i:Nat) (hi:i<p.sets.length) (hL:p.sets.length≤7) (h:ElsOk p.sets) (hx:x.ok):VFun env 59 [.cptr (srchC p),.agg (Enc.enc x),.int .i64 (i:Int)] (.p (.agg (Enc.enc (takeS p.sets x i)))):=by
 obtain ⟨h1,h2,h3,h4,h5⟩:=hx
 have hw:=(wordC_spec h hi).1
 have hwi:=wordsL_gi hi
 have hwl:(wordsL p.sets).length=p.sets.length:=by unfold wordsL;rw [List.length_map]
 obtain ⟨_,_,c1,c2⟩:=h i hi
 have hp:2 ^ i<2 ^ 7:=Nat.pow_lt_pow_right (by omega) (by omega)
 have e:Enc.enc (takeS p.sets x i)=[.int .u64 ((x.taken ||| 2 ^ i:Nat):Int),.int .u64 (x.out:Int),.int .u64 ((x.cov ||| gi (wordsL p.sets) i:Nat):Int),.int .i64 (x.cost+(gi p.sets i).cost)]:=by rw [hwi];rfl
 rw [← hwi] at hw
 rw [e]
 refine VFun.enter (env_none (by decide)) Tryd.func59 rfl (by kernel_rfl) (by simp [Tryd.ntmps59]) ?_
 repeat' (first
  |apply VWp.rseq
  |apply VWp.rseqD
  |apply VWp.ret
  |apply VOps.nil
  |apply VOpsD.nil
  |apply VOps.one
  |(apply VOpsD.bar;decide +kernel)
  |apply VOpsD.quiet
  |(apply VVal.nilChkC;rfl)
  |(apply shl1 i;rfl;rfl;omega)
  |(apply VVal.move;rfl)
  |(apply VVal.add64;rfl;rfl;omega)
  |(apply VVal.orU;rfl;rfl;omega;omega)
  |(apply VVal.indexN;rfl;rfl;rfl;omega;rfl)
  |(apply VVal.load;rfl;rfl)
  |(apply VVal.fieldB;rfl;rfl;rfl)
  |(apply VVal.fieldF;rfl;rfl)
  |(apply VVal.box;rfl;trivial)
  |(apply VVal.alloc;rfl)
  |(apply VVal.storeB;rfl;rfl;rfl;trivial;rfl;rfl;exact lt_dec rfl;exact le_dec rfl)
  |(apply VVal.build;rfl;rfl;rfl;rfl;rfl))
 all_goals try (exfalso;omega)
 all_goals (refine Done.ret rfl (.refl _) (by first|exact trivial|exact ⟨trivial,trivial,trivial⟩|exact ⟨trivial,trivial,trivial,trivial⟩) HCov.nil (Nat.zero_le _) (Nat.le_refl _) ⟨?_,rfl,rfl⟩;try rfl)
set_option maxRecDepth 100000 in
theorem leave_spec (pre:List FV) (x:CSt) (i:Nat) (hi:i<7) (hx:x.ok):VFun env 60 [.cptr pre,.agg (Enc.enc x),.int .i64 (i:Int)] (.p (.agg (Enc.enc (leaveS x i)))):=by
 obtain ⟨h1,h2,h3,h4,h5⟩:=hx
 have hp:2 ^ i<2 ^ 7:=Nat.pow_lt_pow_right (by omega) (by omega)
 refine VFun.enter (env_none (by decide)) Tryd.func60 rfl (by kernel_rfl) (by simp [Tryd.ntmps60]) ?_
 repeat' (first
  |apply VWp.rseq
  |apply VWp.rseqD
  |apply VWp.ret
  |apply VOps.nil
  |apply VOpsD.nil
  |apply VOps.one
  |(apply VOpsD.bar;decide +kernel)
  |apply VOpsD.quiet
  |(apply shl1 i;rfl;rfl;omega)
  |(apply VVal.move;rfl)
  |(apply VVal.orU;rfl;rfl;omega;omega)
  |(apply VVal.load;rfl;rfl)
  |(apply VVal.fieldB;rfl;rfl;rfl)
  |(apply VVal.box;rfl;trivial)
  |(apply VVal.alloc;rfl)
  |(apply VVal.storeB;rfl;rfl;rfl;trivial;rfl;rfl;exact lt_dec rfl;exact le_dec rfl))
 all_goals try (exfalso;omega)
 all_goals (refine Done.ret rfl (.refl _) (by first|exact trivial|exact ⟨trivial,trivial,trivial⟩|exact ⟨trivial,trivial,trivial,trivial⟩) HCov.nil (Nat.zero_le _) (Nat.le_refl _) ⟨?_,rfl,rfl⟩;try rfl)
theorem freeB_iff {L:List CSet} {x:CSt} {e j:Nat}:freeB L x e j=true↔(x.taken ||| x.out) / 2 ^ j % 2=0∧wordC (gi L j) / 2 ^ e % 2=1:=by
 unfold freeB
 rw [Nat.testBit_eq_decide_div_mod_eq,Nat.testBit_eq_decide_div_mod_eq,Bool.and_eq_true,Bool.not_eq_true',decide_eq_false_iff_not,decide_eq_true_eq]
 constructor
 ·rintro ⟨a,b⟩;exact ⟨by omega,b⟩
 ·rintro ⟨a,b⟩;exact ⟨by omega,b⟩
set_option maxRecDepth 100000 in
set_option maxHeartbeats 1000000 in
theorem free_spec (p:CProb) (x:CSt) (e:Int) (he:0≤e∧e<7) (hL:p.sets.length≤7) (h:ElsOk p.sets) (hx:x.ok) :
 VFunV env 58 [.cptr (srchC p),.agg (Enc.enc x),.int .i64 e] 3 (cells (freeK p.sets x e.toNat p.sets.length)) (freeK p.sets x e.toNat p.sets.length).length true:=by
 obtain ⟨h1,h2,h3,h4,h5⟩:=hx
 obtain ⟨e,rfl⟩:∃ k:Nat,e=k:=⟨e.toNat,by omega⟩
 rw [Int.toNat_natCast]
 have hwl:(wordsL p.sets).length=p.sets.length:=by unfold wordsL;rw [List.length_map]
 have hor:x.taken ||| x.out<2 ^ 7:=Nat.or_lt_two_pow h1 h2
 refine VFunV.enter (env_none (by decide)) Tryd.func58 rfl (by kernel_rfl) (by simp [Tryd.ntmps58]) ?_
 repeat' (first
  |apply VWp.assoc
  |apply VWp.rseq
  |apply VWp.blockSeq
  |apply VOps.nil
  |apply VOps.one
  |(apply VVal.nilChkC;rfl)
  |(apply VVal.assign;rfl)
  |(apply VVal.move;rfl)
  |(apply VVal.load;rfl;rfl)
  |(apply VVal.lenF;rfl;rfl)
  |(apply VVal.fieldF;rfl;rfl)
  |(apply VVal.box;rfl;trivial))
 refine VWp.ghost (Ghost.adopt 7 3 rfl) ?_
 apply VWp.loopR (p.sets.length) [(2,_),(4,_),(13,_),(14,_)] [(0,_)] (fun k r=>(15,.p (.int .i64 (k:Int)))::(7,.vec 1 (freeK p.sets x e k).length 0 (freeK p.sets x e k).length)::r) (fun k r=>(1,.vec 3 (cells (freeK p.sets x e k)) (freeK p.sets x e k).length true)::r) 2
 ·omega
 ·omega
 ·repeat (first|exact LCov.nil|(refine LCov.eq rfl ?_ ?_;(first|exact PV.under_of rfl|(simp [PV.under,PVs.under];done)))|refine LCov.cons trivial rfl (.of_eq (lst_len (by simp<;>omega))) ?_)
 ·repeat (first|exact HCov.nil|(refine HCov.eq rfl (lt_dec rfl) ?_ ?_;(first|exact HB.under_of rfl|exact PVs.under_pure _ _|(simp [HB.under,PVs.under,PV.under];done)))|(refine HCov.cons (lt_dec rfl) ?_ rfl ?_ ?_;(first|exact trivial|exact PVs.under_pure _ _|(simp [HB.under,PVs.under,PV.under]));(first|exact HLe.refl _|exact HLe.vec (FLes.refl _) (by simp))))
 ·intro k hk
  have hlen:=freeK_len p.sets x e k
  have hs:=freeK_succ p.sets x e k
  have hw:=(wordC_spec h hk).1
  have hwi:=wordsL_gi hk
  have hiff:=freeB_iff (L:=p.sets) (x:=x) (e:=e) (j:=k)
  have hd1:(x.taken ||| x.out) / 2 ^ k≤x.taken ||| x.out:=Nat.div_le_self _ _
  rw [← hwi] at hw hiff
  have hd2:gi (wordsL p.sets) k / 2 ^ e≤gi (wordsL p.sets) k:=Nat.div_le_self _ _
  have hdd:=Nat.mod_lt ((x.taken ||| x.out) / 2 ^ k) (show 2>0 by omega)
  by_cases hf:freeB p.sets x e k=true
  ·have hf2:=hiff.1 hf
   rw [if_pos hf] at hs
   have e2:(freeK p.sets x e (k+1)).length=(freeK p.sets x e k).length+1:=by rw [hs];simp
   repeat' (first
    |apply VWp.rseq
    |apply VWp.region
    |apply VWp.skipSeq
    |apply VWp.blockSeq
    |apply QSeq.normal
    |apply QBlk.normal
    |apply VOps.nil
    |apply VOps.one
    |(apply VOps.take;rfl;rfl)
    |(apply VOps.guard;rfl;rfl)
    |(apply VVal.and1U;rfl;rfl;omega)
    |(apply VVal.append1 (a:=(k:Int));rfl;rfl;rfl;rfl;rfl;rfl;rfl;rfl;(intro _ h;cases h);rfl;rfl;rfl;decide;decide;(first|omega|(simp only [List.length_take,List.length_drop,List.length_append,List.length_singleton,List.length_cons,List.length_nil]<;>omega)))
    |(apply VVal.assign;rfl)
    |(apply VVal.move;rfl)
    |(apply VVal.add64;rfl;rfl;omega)
    |(apply VVal.orU;rfl;rfl;omega;omega)
    |(apply VVal.int;rfl;rfl;rfl)
    |(apply VVal.indexN;rfl;rfl;rfl;omega;rfl)
    |(apply VVal.load;rfl;rfl)
    |(apply VVal.pick_true;rfl;rfl)
    |(apply VVal.fieldB;rfl;rfl;rfl)
    |(apply VVal.buildSlice;rfl;rfl;rfl;decide;rfl;rfl;rfl)
    |(apply VVal.shrN;rfl;rfl;(simp only [IntKind.bits];omega))
    |(apply VWp.condSeq_dec;rfl)
    |(apply VWp.cond_dec;rfl)
    |(intro _;try (exfalso;omega)))
   all_goals try (exfalso;omega)
   refine QLoop.normal ⟨by omega,?_,?_⟩
   ·try ((try rw [e2])<;>(try rw [hs]))
    repeat (first|exact LCov.nil|refine LCov.same trivial rfl ?_|refine LCov.same (lt_dec rfl) rfl ?_|refine LCov.same ⟨trivial,lt_dec rfl,trivial⟩ rfl ?_|refine LCov.same ⟨trivial,lt_dec rfl,lt_dec rfl,trivial⟩ rfl ?_|refine LCov.same ⟨trivial,lt_dec rfl,lt_dec rfl,lt_dec rfl,trivial⟩ rfl ?_|refine LCov.same ⟨trivial,trivial⟩ rfl ?_|refine LCov.cons trivial rfl (.of_eq (lst_len (by simp<;>omega))) ?_)
   ·(try rw [e2])<;>(try rw [hs])
    repeat (first|exact HCov.nil|(refine HCov.cons (lt_dec rfl) ?_ rfl ?_ ?_;(first|exact HB.under_of rfl|exact PVs.under_pure _ _|(simp [HB.under,PVs.under,PV.under]));(first|exact HLe.refl _|exact HLe.vec (FLes.refl _) (by simp))))
  ·have hf2:¬ ((x.taken ||| x.out) / 2 ^ k % 2=0∧gi (wordsL p.sets) k / 2 ^ e % 2=1):=fun hh=>hf (hiff.2 hh)
   rw [if_neg hf] at hs
   by_cases hu:(x.taken ||| x.out) / 2 ^ k % 2=0
   ·have hu2:¬ gi (wordsL p.sets) k / 2 ^ e % 2=1:=fun hh=>hf2 ⟨hu,hh⟩
    repeat' (first
     |apply VWp.rseq
     |apply VWp.region
     |apply VWp.skipSeq
     |apply VWp.blockSeq
     |apply QSeq.normal
     |apply QBlk.normal
     |apply VWp.skip
     |apply VOps.nil
     |apply VOps.one
     |(apply VOps.take;rfl;rfl)
     |(apply VOps.guard;rfl;rfl)
     |(apply VVal.and1U;rfl;rfl;omega)
     |(apply VVal.assign;rfl)
     |(apply VVal.move;rfl)
     |(apply VVal.add64;rfl;rfl;omega)
     |(apply VVal.orU;rfl;rfl;omega;omega)
     |(apply VVal.int;rfl;rfl;rfl)
     |(apply VVal.indexN;rfl;rfl;rfl;omega;rfl)
     |(apply VVal.load;rfl;rfl)
     |(apply VVal.pick_true;rfl;rfl)
     |(apply VVal.fieldB;rfl;rfl;rfl)
     |(apply VVal.shrN;rfl;rfl;(simp only [IntKind.bits];omega))
     |(apply VWp.condSeq_dec;rfl)
     |(apply VWp.cond_dec;rfl)
     |(intro _;try (exfalso;omega)))
    all_goals try (exfalso;omega)
    refine QLoop.normal ⟨by omega,?_,?_⟩
    ·try ((try rw [hs]))
     repeat (first|exact LCov.nil|refine LCov.same trivial rfl ?_|refine LCov.same (lt_dec rfl) rfl ?_|refine LCov.same ⟨trivial,lt_dec rfl,trivial⟩ rfl ?_|refine LCov.same ⟨trivial,lt_dec rfl,lt_dec rfl,trivial⟩ rfl ?_|refine LCov.same ⟨trivial,lt_dec rfl,lt_dec rfl,lt_dec rfl,trivial⟩ rfl ?_|refine LCov.same ⟨trivial,trivial⟩ rfl ?_|refine LCov.cons trivial rfl (.of_eq (lst_len (by simp<;>omega))) ?_)
    ·(try rw [hs])
     repeat (first|exact HCov.nil|(refine HCov.cons (lt_dec rfl) ?_ rfl ?_ ?_;(first|exact HB.under_of rfl|exact PVs.under_pure _ _|(simp [HB.under,PVs.under,PV.under]));(first|exact HLe.refl _|exact HLe.vec (FLes.refl _) (by simp))))
   ·repeat' (first
     |apply VWp.rseq
     |apply VWp.region
     |apply VWp.skipSeq
     |apply VWp.blockSeq
     |apply QSeq.normal
     |apply QBlk.normal
     |apply VWp.skip
     |apply VOps.nil
     |apply VOps.one
     |(apply VOps.drop;rfl;rfl;rfl)
     |(apply VOps.guard;rfl;rfl)
     |(apply VVal.and1U;rfl;rfl;omega)
     |(apply VVal.assign;rfl)
     |(apply VVal.move;rfl)
     |(apply VVal.add64;rfl;rfl;omega)
     |(apply VVal.orU;rfl;rfl;omega;omega)
     |(apply VVal.int;rfl;rfl;rfl)
     |(apply VVal.indexN;rfl;rfl;rfl;omega;rfl)
     |(apply VVal.load;rfl;rfl)
     |(apply VVal.pick_false;rfl;rfl)
     |(apply VVal.fieldB;rfl;rfl;rfl)
     |(apply VVal.shrN;rfl;rfl;(simp only [IntKind.bits];omega))
     |(apply VWp.condSeq_dec;rfl)
     |(apply VWp.cond_false;rfl)
     |(intro _;try (exfalso;omega)))
    all_goals try (exfalso;omega)
    refine QLoop.normal ⟨by omega,?_,?_⟩
    ·try ((try rw [hs]))
     repeat (first|exact LCov.nil|refine LCov.same trivial rfl ?_|refine LCov.same (lt_dec rfl) rfl ?_|refine LCov.same ⟨trivial,lt_dec rfl,trivial⟩ rfl ?_|refine LCov.same ⟨trivial,lt_dec rfl,lt_dec rfl,trivial⟩ rfl ?_|refine LCov.same ⟨trivial,lt_dec rfl,lt_dec rfl,lt_dec rfl,trivial⟩ rfl ?_|refine LCov.same ⟨trivial,trivial⟩ rfl ?_|refine LCov.cons trivial rfl (.of_eq (lst_len (by simp<;>omega))) ?_)
    ·(try rw [hs])
     repeat (first|exact HCov.nil|(refine HCov.cons (lt_dec rfl) ?_ rfl ?_ ?_;(first|exact HB.under_of rfl|exact PVs.under_pure _ _|(simp [HB.under,PVs.under,PV.under]));(first|exact HLe.refl _|exact HLe.vec (FLes.refl _) (by simp))))
 ·repeat' (first
   |apply VWp.rseq
   |apply VWp.exitSeq
   |apply QSeq.normal
   |apply QBlk.exit
   |apply QLoop.exit
   |apply VWp.ret
   |apply VOps.nil
   |apply VOps.one
   |(apply VVal.assign;rfl)
   |(apply VVal.move;rfl)
   |(apply VVal.int;rfl;rfl;rfl)
   |(apply VWp.condSeq_dec;rfl)
   |(intro _;try (exfalso;omega)))
  all_goals first|(exfalso;omega)|exact DoneV.ret rfl rfl rfl rfl
end Go.Proofs.YtmfnchgkffhpfaaDoor
