/-
  The law of organs: Changed. Conditions: in each statement. (Written by mkch.py.)
-/
import Derived.Test.YtcnlhgmkelkikaaGreatDoorOrI
import Derived.Test.YtcnlhgmkelkikaaGreatDoorVmG
set_option linter.unusedSimpArgs false
set_option linter.unusedVariables false
namespace Go.Proofs.YtcnlhgmkelkikaaGreatDoor
open Go Go.Am Go.Vm
attribute [local irreducible] VVal VOps VOpsD VWp VCalls VFun VFunV QSeq QBlk QLoop Vm.Done DoneV DoneI
structure Slp where
 kind:Nat
 at_:Nat
instance:Enc Slp:={ default:=⟨0,0⟩,enc:=fun x=>[.int .u8 (x.kind:Int),.int .u8 (x.at_:Int)],size:=2,len:=fun _=>rfl }
structure Slp.Ok (x:Slp):Prop where
 kind:x.kind<256
 at_:x.at_<256
structure OrgL (n:Nat) (o:Org):Prop where
 sm:OrgSm o
 ranks:o.ranks.length≤n
 divs:o.divs.length≤n
 cpls:o.cpls.length≤n
 stops:∀ i,i<o.divs.length→(gi o.divs i).stops.length≤n
def chA:List (List UInt8):=[[],[55],[97,32,98],[70,105,110,101]]
def chB:List (List UInt8):=[[],[82,48],[82,57]]
def chC:List (List UInt8):=[[],[68,48],[68,49],[83,111,108,111]]
def chD:List (List UInt8):=[[],[83,49],[84],[83,50]]
def chE:List (List UInt8):=[[],[67,48],[68,48]]
def cpA:List Cps:=[⟨-1,40⟩,⟨50,40⟩,⟨0,128⟩,⟨0,127⟩]
def appK {α:Type} (f:List α→α) (l:List α):Nat→List α
 |0=>l
 |k+1=>appK f l k++[f (appK f l k)]
theorem appK_len {α:Type} (f:List α→α) (l:List α):∀ k,(appK f l k).length=l.length+k
 |0=>rfl
 |k+1=>by simp [appK,appK_len f l k];omega
def orgEnc (nm:List UInt8) (R:List Rnk) (nr:Nat) (D:List Dvs) (nd:Nat) (C:List Cpl) (nc:Nat):List FV:=[.str (bs nm),.lst 44 (cells R) nr,.lst 49 (cells D) nd,.lst 72 (cells C) nc]
theorem orgEnc_eq {nm:List UInt8} {R:List Rnk} {nr:Nat} {D:List Dvs} {nd:Nat} {C:List Cpl} {nc:Nat} (h1:R.length=nr) (h2:D.length=nd) (h3:C.length=nc):Enc.enc (⟨nm,R,D,C⟩:Org)=orgEnc nm R nr D nd C nc:=by subst h1;subst h2;subst h3;rfl
set_option maxRecDepth 100000 in
set_option maxHeartbeats 4000000 in
theorem chg0 (o:Org) (n:Nat) (hn:n≤1000) (hl:OrgL n o) (hr0:0<o.ranks.length) (hd0:0<o.divs.length) (K A:Nat) (hK:K<256) (hA:A<256) (hc:K % 16=0∨K % 16=14∨K % 16=15) :
 VFun env 29 [.agg (Enc.enc o),.agg [.int .u8 (K:Int),.int .u8 (A:Int)]] (.p (.agg (Enc.enc (⟨o.name,o.ranks,o.divs.set (A % o.divs.length) (gi o.divs (A % o.divs.length)),o.cpls⟩:Org)))):=by
 have hr:=hl.ranks
 have hd:=hl.divs
 have hcp:=hl.cpls
 have kd:A % o.divs.length<o.divs.length:=Nat.mod_lt _ hd0
 have kr:A % o.ranks.length<o.ranks.length:=Nat.mod_lt _ hr0
 have hst:=hl.stops _ kd
 rw [orgEnc_eq (nr:=o.ranks.length) (nd:=o.divs.length) (nc:=o.cpls.length) rfl List.length_set rfl]
 refine VFun.enter (env_none (by decide)) Tryz.func29 rfl (by kernel_rfl) (by simp [Tryz.ntmps29]) ?_
 repeat' (first
  |(refine VWp.at 47 ?_;refine VWp.ghost (Ghost.freezeCell 9 4 rfl rfl rfl) ?_;first|apply VWp.rseq|apply VWp.rseqD)
  |(refine VWp.atEnd 47 ?_;refine VWp.ghost (Ghost.freezeCell 9 4 rfl rfl rfl) ?_;first|apply VWp.region|apply VWp.regionD)
  |(refine VWp.at 49 ?_;refine VWp.ghost (Ghost.trans (Ghost.freezeCell 0 1 rfl rfl rfl) (Ghost.trans (Ghost.freezeCell 0 2 rfl rfl rfl) (Ghost.freezeCell 0 3 rfl rfl rfl))) ?_;first|apply VWp.rseq|apply VWp.rseqD)
  |(refine VWp.atEnd 49 ?_;refine VWp.ghost (Ghost.trans (Ghost.freezeCell 0 1 rfl rfl rfl) (Ghost.trans (Ghost.freezeCell 0 2 rfl rfl rfl) (Ghost.freezeCell 0 3 rfl rfl rfl))) ?_;first|apply VWp.region|apply VWp.regionD)
  |apply VWp.assoc
  |apply VWp.rseq
  |apply VWp.rseqD
  |apply VWp.region
  |apply VWp.regionD
  |apply VWp.skipSeq
  |apply VWp.retSeq
  |apply VWp.exitSeq
  |apply VWp.blockSeq
  |apply QSeq.normal
  |apply QSeq.ret
  |apply QSeq.exit
  |(apply DoneI.ret;rfl)
  |(apply DoneI.normal;rfl)
  |apply QBlk.normal
  |apply QBlk.ret
  |apply QBlk.exit
  |(apply QBlk.out;decide)
  |apply QLoop.ret
  |apply QLoop.exit
  |apply VWp.ret
  |apply VWp.skip
  |apply VWp.exit
  |apply VWp.blockQ
  |apply VOps.nil
  |apply VOpsD.nil
  |apply VOps.one
  |(apply VOpsD.bar;decide +kernel)
  |apply VOpsD.quiet
  |(apply VOps.take;rfl;rfl)
  |(apply VOpsD.quietTake;rfl;rfl)
  |(apply VOps.drop;rfl;rfl;rfl)
  |(apply VOpsD.drop;rfl;rfl;rfl)
  |(apply VOps.guard;rfl;rfl)
  |(apply VOpsD.guard;rfl;rfl)
  |(apply VOps.dropU;rfl;rfl)
  |(apply VOpsD.dropU;rfl;rfl)
  |(apply VOps.guardB;rfl;rfl)
  |(apply VOpsD.guardB;rfl;rfl)
  |(apply VVal.storeVL (y:=(gi o.divs (A % o.divs.length)));rfl;rfl;rfl;trivial;(first|rfl|(refine congrArg (fun t=>[PV.p (FV.int _ t)]) ?_;first|omega|(simp only [Int.natCast_add,Int.natCast_mul,Int.natCast_ediv,Int.natCast_emod]<;>omega)));rfl;rfl;decide;(first|omega|(simp only [List.length_set]<;>omega)))
  |(apply VVal.remN;rfl;rfl;omega)
  |(apply VVal.indexVN (i:=A % o.divs.length);rfl;rfl;rfl;rfl;exact kd)
  |(apply VVal.loadVL (i:=A % o.divs.length);rfl;rfl;exact kd;rfl)
  |(apply VVal.assign;rfl)
  |(apply VVal.move;rfl)
  |(apply VVal.add64;rfl;rfl;omega)
  |(apply VVal.sub64;rfl;rfl;omega)
  |(apply VVal.mul64;rfl;rfl;omega)
  |(apply VVal.subBN (c:=48);rfl;rfl;omega)
  |(apply VVal.subB;rfl;rfl;omega)
  |(apply VVal.addB;rfl;rfl;omega)
  |(apply VVal.addUN;rfl;rfl;omega)
  |(apply VVal.mulUN;rfl;rfl;omega)
  |(apply VVal.subUN;rfl;rfl;omega)
  |(apply VVal.quoUN;rfl;rfl;omega)
  |(apply VVal.remUN;rfl;rfl;omega)
  |(apply VVal.quoUT;rfl;rfl;omega)
  |(apply VVal.remUT;rfl;rfl;omega)
  |(apply VVal.mulUN (a:=10);rfl;rfl;omega)
  |(apply VVal.and1;rfl;rfl;omega)
  |(apply VVal.and1U;rfl;rfl;omega)
  |(apply VVal.and1B;rfl;rfl;omega)
  |(apply VVal.andI;rfl;rfl;omega)
  |(apply VVal.andU;rfl;rfl;omega;omega)
  |(apply VVal.orU;rfl;rfl;omega;omega)
  |(apply VVal.andNotU;rfl;rfl;omega;omega)
  |(apply VVal.remI;rfl;rfl;omega;omega)
  |(apply VVal.quoI;rfl;rfl;omega;omega)
  |(apply VVal.int;rfl;rfl;rfl)
  |(apply VVal.indexN;rfl;rfl;rfl;omega;rfl)
  |(apply VVal.indexP;rfl;rfl;rfl;omega;omega;rfl)
  |(apply VVal.indexE;rfl;rfl;rfl;omega;omega;rfl)
  |(apply VVal.loadVL;rfl;rfl;omega;rfl)
  |(apply VVal.load;rfl;rfl)
  |(apply VVal.pick_true;rfl;rfl)
  |(apply VVal.pick_false;rfl;rfl)
  |(apply VVal.lenF;rfl;rfl)
  |(apply VVal.lenNil;rfl;rfl)
  |(apply VVal.lenV;rfl;rfl;rfl)
  |(apply VVal.fieldB;rfl;rfl;rfl)
  |(apply VVal.fieldF;rfl;rfl)
  |(apply VVal.box;rfl;trivial)
  |(apply VVal.alloc;rfl)
  |(apply VVal.storeB;rfl;rfl;rfl;trivial;rfl;rfl;exact lt_dec rfl;exact le_dec rfl)
  |(apply VVal.build;rfl;rfl;rfl;rfl;rfl)
  |(apply VVal.buildSlice;rfl;rfl;rfl;decide;rfl;rfl;rfl)
  |(apply VVal.lenSt;rfl;rfl)
  |(apply VVal.eqS;rfl;rfl)
  |(apply VVal.neS;rfl;rfl)
  |(apply VVal.indexStN;rfl;rfl;rfl;omega)
  |(apply VVal.indexSt;rfl;rfl;rfl;omega;omega)
  |(apply VVal.sliceSI;rfl;rfl;rfl;rfl;omega)
  |(apply VVal.sliceSto;rfl;rfl;rfl;omega)
  |(apply VVal.sliceSfrom;rfl;rfl;rfl;omega)
  |(apply VVal.convS;rfl;rfl;rfl)
  |(apply VVal.toBytes;rfl;rfl;rfl;rfl;rfl;rfl;omega)
  |(apply VVal.addS;rfl;rfl;(first|omega|(simp only [List.length_take,List.length_drop,List.length_append,List.length_singleton,List.length_cons,List.length_nil]<;>omega)))
  |(apply VVal.indexVN;rfl;rfl;rfl;rfl;omega)
  |(apply VVal.indexVE;rfl;rfl;rfl;rfl;omega;omega)
  |(apply VVal.neg;rfl;omega)
  |(apply VVal.neB;rfl;rfl;rfl)
  |(apply VVal.eqB;rfl;rfl;rfl)
  |(apply VVal.maxI;rfl;rfl)
  |(apply VVal.minI;rfl;rfl)
  |(apply VVal.not;rfl)
  |(apply VVal.extract;rfl;rfl)
  |(apply VVal.convI;rfl;rfl;rfl;rfl;omega)
  |(apply VVal.convU;rfl;rfl;rfl;rfl;omega)
  |(apply VVal.convB;rfl;rfl;rfl;rfl;omega)
  |(apply VVal.convInt;rfl;rfl;rfl;rfl)
  |(apply VVal.append1;rfl;rfl;rfl;rfl;rfl;rfl;rfl;rfl;(intro _ h;cases h);rfl;rfl;rfl;decide;decide;(first|omega|(simp only [List.length_take,List.length_drop,List.length_append,List.length_singleton,List.length_cons,List.length_nil]<;>omega)))
  |(apply VVal.appendL0;rfl;rfl;rfl;(first|rfl|omega|(simp only [List.length_take,List.length_drop,List.length_append,List.length_singleton,List.length_cons,List.length_nil]<;>omega));rfl;rfl;(intro _ h;cases h);rfl;rfl;rfl;decide;decide;(first|omega|(simp only [List.length_take,List.length_drop,List.length_append,List.length_singleton,List.length_cons,List.length_nil]<;>omega)))
  |(apply VVal.appendL;rfl;rfl;rfl;(first|rfl|omega|(simp only [List.length_take,List.length_drop,List.length_append,List.length_singleton,List.length_cons,List.length_nil]));(first|rfl|omega|(simp only [List.length_take,List.length_drop,List.length_append,List.length_singleton,List.length_cons,List.length_nil]<;>omega));rfl;rfl;(intro _ h;cases h);rfl;rfl;rfl;decide;decide;(first|omega|(simp only [List.length_take,List.length_drop,List.length_append,List.length_singleton,List.length_cons,List.length_nil]<;>omega)))
  |(apply VVal.shlOne;rfl;rfl;omega)
  |(apply VVal.shlOneU;rfl;rfl;omega)
  |(apply VVal.shrN;rfl;rfl;(simp only [IntKind.bits];omega))
  |(apply VVal.sliceTo;rfl;rfl;rfl;rfl;rfl;rfl;omega)
  |(apply VVal.sliceFrom;rfl;rfl;rfl;rfl;rfl;rfl;omega)
  |(apply VVal.sliceToI;rfl;rfl;rfl;rfl;rfl;rfl;omega)
  |(apply VVal.shr;rfl;rfl;omega)
  |(apply VVal.shl;rfl;rfl;omega)
  |(apply VWp.condSeq_true;rfl)
  |(apply VWp.condSeq_false;rfl)
  |(apply VWp.condSeq_dec;rfl)
  |(apply VWp.condSeq;rfl)
  |(apply VWp.cond_true;rfl)
  |(apply VWp.cond_false;rfl)
  |(apply VWp.cond_dec;rfl)
  |(apply VWp.cond;rfl)
  |(intro _;try (exfalso;omega)))
 all_goals first|(exfalso;omega)|contradiction|(refine Done.ret rfl (.refl _) (by first|exact trivial|exact ⟨trivial,trivial,trivial⟩|exact ⟨trivial,trivial,trivial,trivial⟩) HCov.nil (Nat.zero_le _) (Nat.le_refl _) ⟨?_,rfl,rfl⟩;try rfl)
end Go.Proofs.YtcnlhgmkelkikaaGreatDoor
