/-
  The law of organs: feet, pull. Conditions: in each statement.
-/
import Derived.Test.YtcnlhgmkelkikaaGreatDoorOrB
import Derived.Test.YtcnlhgmkelkikaaGreatDoorRkI
set_option linter.unusedSimpArgs false
set_option linter.unusedVariables false
namespace Go.Proofs.YtcnlhgmkelkikaaGreatDoor
open Go Go.Am Go.Vm
attribute [local irreducible] VVal VOps VOpsD VWp VCalls VFun VFunV QSeq QBlk QLoop Vm.Done DoneV DoneI
structure Pul where
 rank:Nat
 feet:Nat
 kind:Nat
 at_:Nat
instance:Enc Pul:={ default:=⟨0,0,0,0⟩,enc:=fun x=>[.int .u8 (x.rank:Int),.int .u8 (x.feet:Int),.int .u8 (x.kind:Int),.int .u8 (x.at_:Int)],size:=4,len:=fun _=>rfl }
structure Pul.Ok (x:Pul):Prop where
 rank:x.rank<256
 feet:x.feet<256
 kind:x.kind<256
 at_:x.at_<256
structure Brd where
 low:Nat
 keys:Nat
 pedal:Bool
 stops:List Pul
instance:Enc Brd:={ default:=⟨0,0,false,[]⟩,enc:=fun x=>[.int .u8 (x.low:Int),.int .u8 (x.keys:Int),.bool x.pedal,.lst 118 (cells x.stops) x.stops.length],size:=4,len:=fun _=>rfl }
structure Brd.Ok (x:Brd):Prop where
 low:x.low<256
 keys:x.keys<256
 stops:x.stops.length<9223372036854775808
 all:∀ i,i<x.stops.length→(gi x.stops i).Ok
structure Lnk where
 frm:Nat
 tgt:Nat
 shift:Int
 through:Bool
instance:Enc Lnk:={ default:=⟨0,0,0,false⟩,enc:=fun x=>[.int .u8 (x.frm:Int),.int .u8 (x.tgt:Int),.int .i8 x.shift,.bool x.through],size:=4,len:=fun _=>rfl }
structure Lnk.Ok (x:Lnk):Prop where
 frm:x.frm<256
 tgt:x.tgt<256
 shift:-128≤x.shift∧x.shift≤127
instance encRPlan:Enc RPlan:={ default:=⟨0,0,0,0,[]⟩,enc:=RPlan.enc,size:=9,len:=fun _=>rfl }
structure OPl where
 ranks:List RPlan
 divs:List Brd
 links:List Lnk
def OPl.enc (x:OPl):List FV:=[.lst 114 (cells x.ranks) x.ranks.length,.lst 110 (cells x.divs) x.divs.length,.lst 120 (cells x.links) x.links.length]
structure OPl.Ok (x:OPl):Prop where
 ranks:∀ i,i<x.ranks.length→(gi x.ranks i).Ok
 divs:∀ i,i<x.divs.length→(gi x.divs i).Ok
 links:∀ i,i<x.links.length→(gi x.links i).Ok
 nr:x.ranks.length<9223372036854775808
 nd:x.divs.length<9223372036854775808
 nl:x.links.length<9223372036854775808
def feet6:List Frac:=[⟨8,1⟩,⟨4,1⟩,⟨16,1⟩,⟨8,3⟩,⟨2,1⟩,⟨8,5⟩]
set_option maxRecDepth 100000 in
set_option maxHeartbeats 1000000 in
theorem feet6_spec (n:Nat) (hn:n<256):VFun env 86 [.int .u8 (n:Int)] (.p (.agg (Enc.enc (gi feet6 (n % 6))))):=by
 refine VFun.enter (env_none (by decide)) Tryz.func86 rfl (by kernel_rfl) (by simp [Tryz.ntmps86]) ?_
 have hlt:n % 6<6:=Nat.mod_lt _ (by decide)
 repeat' (first
  |(refine VOps.atOp 12 ?_;refine VOps.ghost (Ghost.freeze 9 rfl rfl) ?_)
  |apply VWp.rseq
  |apply VWp.ret
  |apply VOps.nil
  |apply VOps.one
  |(apply VVal.indexN (l:=feet6) (i:=n % 6);rfl;rfl;rfl;exact hlt;rfl)
  |(apply VVal.move;rfl)
  |(apply VVal.remI;rfl;rfl;omega;omega)
  |(apply VVal.load;rfl;rfl)
  |(apply VVal.alloc;rfl)
  |(apply VVal.storeB;rfl;rfl;rfl;trivial;rfl;rfl;exact lt_dec rfl;exact le_dec rfl)
  |(apply VVal.build;rfl;rfl;rfl;rfl;rfl)
  |(apply VVal.buildSlice;rfl;rfl;rfl;decide;rfl;rfl;rfl))
 all_goals (refine Done.ret rfl (.refl _) (by first|exact trivial|exact ⟨trivial,trivial,trivial⟩|exact ⟨trivial,trivial,trivial,trivial⟩) HCov.nil (Nat.zero_le _) (Nat.le_refl _) ⟨?_,rfl,rfl⟩;try rfl)
theorem feet6_ok:∀ n,n<6→pOk (gi feet6 n):=by decide +kernel
theorem shift6:∀ a,a<6→∀ b,b<16→(shiftR (gi feet6 a) (gi feetL b)).2=0∧-100≤(shiftR (gi feet6 a) (gi feetL b)).1∧(shiftR (gi feet6 a) (gi feetL b)).1≤100:=by decide +kernel
structure RksOk (rk:List Rnk):Prop where
 len:0<rk.length∧rk.length≤3
 ok:∀ i,i<rk.length→rchk (gi rk i)=0∧∃ b,b<16∧(gi rk i).feet=gi feetL b
attribute [local irreducible] rchk windsE shiftR
set_option maxRecDepth 100000 in
set_option maxHeartbeats 2000000 in
theorem pull_ex (rk:List Rnk) (lo hi:Int) (x:Pul) (i:Nat) (hrk:RksOk rk) (hc:0≤lo∧lo≤hi∧hi≤127) (hx:x.Ok) (hi9:i≤9) :
 ∃ s:Stp,VFun env 42 [.lst 44 (cells rk) rk.length,.agg [.int .i64 lo,.int .i64 hi],.agg (Enc.enc x),.int .i64 (i:Int)] (.p (.agg (Enc.enc s)))∧s.name=nmI 83 i∧stoE rk lo hi s=0∧StpSm s:=by
 obtain ⟨hl,hok⟩:=hrk
 obtain ⟨x1,x2,x3,x4⟩:=hx
 obtain ⟨n,hn⟩:∃ n,n=x.rank % rk.length:=⟨_,rfl⟩
 have hnl:n<rk.length:=by rw [hn];exact Nat.mod_lt _ hl.1
 obtain ⟨m,hm⟩:∃ m,m=(n+1) % rk.length:=⟨_,rfl⟩
 have hml:m<rk.length:=by rw [hm];exact Nat.mod_lt _ hl.1
 have hf6:=feet6_spec x.feet x2
 have h6:x.feet % 6<6:=Nat.mod_lt _ (by decide)
 have f6:=feet6_ok _ h6
 obtain ⟨-,b,hb,eb⟩:=hok n hnl
 obtain ⟨-,c,hc2,ec⟩:=hok m hml
 have s1:=shift6 _ h6 b hb
 have s2:=shift6 _ h6 c hc2
 rw [← eb] at s1
 rw [← ec] at s2
 generalize hF:gi feet6 (x.feet % 6)=F at *
 have q1:=pShift_spec F (gi rk n).feet
 have q2:=pShift_spec F (gi rk m).feet
 rw [s1.1] at q1
 rw [s2.1] at q2
 generalize (shiftR F (gi rk n).feet).1=sh at *
 generalize (shiftR F (gi rk m).feet).1=so at *
 have hplc:plcE rk lo hi=0:=plcE_zero (fun i h=>(hok i h).1) (by omega) hc
 have stE:∀ g:List Seg,(0<g.length∧g.length≤12)→segsE rk.length lo hi g 0=0→stoE rk lo hi ⟨nmI 83 i,F,g⟩=0:=fun g h1 h2=>by
  unfold stoE stpE
  rw [if_neg (fun h=>h hplc),if_neg (fun h=>h (nmI_ok (by decide) (by omega))),if_neg (fun h=>h (pchk_ok.2 f6)),if_neg (by simp only;omega),if_neg (by simp only;omega)]
  exact h2
 have sm:∀ g:List Seg,g.length<1000000→(∀ j,j<g.length→(gi g j).draws.length<1000000)→StpSm ⟨nmI 83 i,F,g⟩:=fun g h1 h2=>⟨by simp [nmI],h1,fun j hj=>⟨h2 j hj⟩⟩
 have dOne:DrwOk rk.length ⟨n,sh⟩:=⟨⟨by simp only;omega,by simp only;omega⟩,⟨by simp only;omega,by simp only;omega⟩⟩
 have hn2:(n:Int)=(x.rank:Int) % rk.length:=by rw [hn];simp
 obtain ⟨d,hd⟩:∃ d:Nat,(d:Int)=(x.at_:Int) % (hi-lo+1):=⟨((x.at_:Int) % (hi-lo+1)).toNat,by have:=Int.emod_nonneg (x.at_:Int) (show hi-lo+1≠0 by omega);omega⟩
 have hd2:(d:Int)≤hi-lo:=by have:=Int.emod_lt_of_pos (x.at_:Int) (show 0<hi-lo+1 by omega);omega
 have hk6:x.kind % 6<6:=Nat.mod_lt _ (by decide)
 rw [hm,hn] at q2 hml
 rw [hn] at q1 hnl
 have hm2:(m:Int)=((x.rank:Int) % rk.length+1) % rk.length:=by rw [hm,hn];simp
 have hAt:lo+(d:Int)=lo+(x.at_:Int) % (hi-lo+1):=by omega
 rw [hn2] at dOne
 have dSo:DrwOk rk.length ⟨((x.rank:Int) % rk.length+1) % rk.length,so⟩:=by
  rw [← hm2]
  exact ⟨⟨by simp only;omega,by simp only;rw [hm];have:=Nat.mod_lt (n+1) hl.1;omega⟩,⟨by simp only;omega,by simp only;omega⟩⟩
 have dTw:DrwOk rk.length ⟨(x.rank:Int) % rk.length,sh-12⟩:=⟨dOne.rank,⟨by simp only;omega,by simp only;omega⟩⟩
 have dTh:DrwOk rk.length ⟨(x.rank:Int) % rk.length,sh+7⟩:=⟨dOne.rank,⟨by simp only;omega,by simp only;omega⟩⟩
 by_cases k2:x.kind % 6=2
 ·refine ⟨⟨nmI 83 i,F,[⟨lo,hi,[⟨(x.rank:Int) % rk.length,sh⟩,⟨(x.rank:Int) % rk.length,sh+7⟩]⟩]⟩,?_,rfl,?_,?_⟩
  ·refine VFun.enter (env_none (by decide)) Tryz.func42 rfl (by kernel_rfl) (by simp [Tryz.ntmps42]) ?_
   repeat' (first
    |(refine VWp.at 5 ?_;refine VWp.ghost (Ghost.freeze 13 rfl rfl) ?_;first|apply VWp.rseq|apply VWp.rseqD)
    |(refine VWp.at 22 ?_;refine VWp.ghost (Ghost.freezeCell 4 3 rfl rfl rfl) ?_;first|apply VWp.rseq|apply VWp.rseqD)
    |(refine VOps.atOp 88 ?_;refine VOps.ghost (Ghost.freeze 87 rfl rfl) ?_)
    |apply VWp.assoc
    |apply VWp.rseq
    |apply VWp.rseqD
    |apply VWp.region
    |apply VWp.blockSeq
    |apply QSeq.normal
    |apply QBlk.normal
    |apply VWp.ret
    |apply VOps.nil
    |apply VOpsD.nil
    |apply VOps.one
    |(apply VOpsD.bar;decide +kernel)
    |apply VOpsD.quiet
    |(apply VVal.fn;rfl;rfl;exact hf6;intro _;rfl)
    |(apply VVal.fn;rfl;rfl;exact q1;intro _;rfl)
    |(apply VVal.ofByte1;rfl;rfl;rfl;rfl;rfl;omega)
    |(apply VVal.indexN (l:=rk) (i:=x.rank % rk.length);rfl;rfl;rfl;exact hnl;rfl)
    |(apply VVal.assign;rfl)
    |(apply VVal.move;rfl)
    |(apply VVal.add64;rfl;rfl;omega)
    |(apply VVal.sub64;rfl;rfl;omega)
    |(apply VVal.remI;rfl;rfl;omega;omega)
    |(apply VVal.int;rfl;rfl;rfl)
    |(apply VVal.load;rfl;rfl)
    |(apply VVal.lenF;rfl;rfl)
    |(apply VVal.fieldB;rfl;rfl;rfl)
    |(apply VVal.fieldF;rfl;rfl)
    |(apply VVal.box;rfl;trivial)
    |(apply VVal.alloc;rfl)
    |(apply VVal.storeB;rfl;rfl;rfl;trivial;rfl;rfl;exact lt_dec rfl;exact le_dec rfl)
    |(apply VVal.build;rfl;rfl;rfl;rfl;rfl)
    |(apply VVal.buildSlice;rfl;rfl;rfl;decide;rfl;rfl;rfl)
    |(apply VVal.addS;rfl;rfl;(first|omega|(simp only [List.length_take,List.length_drop,List.length_append,List.length_singleton,List.length_cons,List.length_nil]<;>omega)))
    |(apply VVal.extract;rfl;rfl)
    |(apply VVal.convI;rfl;rfl;rfl;rfl;omega)
    |(apply VVal.convB;rfl;rfl;rfl;rfl;omega)
    |(apply VWp.cond_dec;rfl)
    |(intro _;try (exfalso;omega)))
   all_goals first|(exfalso;omega)|contradiction|(refine Done.ret rfl (.refl _) (by first|exact trivial|exact ⟨trivial,trivial,trivial⟩|exact ⟨trivial,trivial,trivial,trivial⟩) HCov.nil (Nat.zero_le _) (Nat.le_refl _) ⟨?_,rfl,rfl⟩;rfl)
  ·exact stE _ (by simp) (segsE_one ⟨Int.le_refl _,hc.2.1,Int.le_refl _⟩ (drwE_two dOne dTh (fun h=>by have:=congrArg Drw.shift h;simp only at this;omega)))
  ·refine sm _ (by simp) (fun j hj=>?_)
   obtain rfl:j=0:=by simp at hj;omega
   show 2<1000000
   decide
 by_cases k5:x.kind % 6=5
 ·refine ⟨⟨nmI 83 i,F,[⟨lo+(x.at_:Int) % (hi-lo+1),hi,[⟨(x.rank:Int) % rk.length,sh⟩]⟩]⟩,?_,rfl,?_,?_⟩
  ·refine VFun.enter (env_none (by decide)) Tryz.func42 rfl (by kernel_rfl) (by simp [Tryz.ntmps42]) ?_
   repeat' (first
    |(refine VWp.at 5 ?_;refine VWp.ghost (Ghost.freeze 13 rfl rfl) ?_;first|apply VWp.rseq|apply VWp.rseqD)
    |(refine VWp.at 22 ?_;refine VWp.ghost (Ghost.freezeCell 4 3 rfl rfl rfl) ?_;first|apply VWp.rseq|apply VWp.rseqD)
    |apply VWp.assoc
    |apply VWp.rseq
    |apply VWp.rseqD
    |apply VWp.region
    |apply VWp.blockSeq
    |apply QSeq.normal
    |apply QBlk.normal
    |apply VWp.ret
    |apply VOps.nil
    |apply VOpsD.nil
    |apply VOps.one
    |(apply VOpsD.bar;decide +kernel)
    |apply VOpsD.quiet
    |(apply VVal.fn;rfl;rfl;exact hf6;intro _;rfl)
    |(apply VVal.fn;rfl;rfl;exact q1;intro _;rfl)
    |(apply VVal.ofByte1;rfl;rfl;rfl;rfl;rfl;omega)
    |(apply VVal.indexN (l:=rk) (i:=x.rank % rk.length);rfl;rfl;rfl;exact hnl;rfl)
    |(apply VVal.assign;rfl)
    |(apply VVal.move;rfl)
    |(apply VVal.add64;rfl;rfl;omega)
    |(apply VVal.sub64;rfl;rfl;omega)
    |(apply VVal.remI;rfl;rfl;omega;omega)
    |(apply VVal.int;rfl;rfl;rfl)
    |(apply VVal.load;rfl;rfl)
    |(apply VVal.lenF;rfl;rfl)
    |(apply VVal.fieldB;rfl;rfl;rfl)
    |(apply VVal.fieldF;rfl;rfl)
    |(apply VVal.box;rfl;trivial)
    |(apply VVal.alloc;rfl)
    |(apply VVal.storeB;rfl;rfl;rfl;trivial;rfl;rfl;exact lt_dec rfl;exact le_dec rfl)
    |(apply VVal.build;rfl;rfl;rfl;rfl;rfl)
    |(apply VVal.buildSlice;rfl;rfl;rfl;decide;rfl;rfl;rfl)
    |(apply VVal.addS;rfl;rfl;(first|omega|(simp only [List.length_take,List.length_drop,List.length_append,List.length_singleton,List.length_cons,List.length_nil]<;>omega)))
    |(apply VVal.extract;rfl;rfl)
    |(apply VVal.convI;rfl;rfl;rfl;rfl;omega)
    |(apply VVal.convB;rfl;rfl;rfl;rfl;omega)
    |(apply VWp.condSeq_dec;rfl)
    |(apply VWp.cond_dec;rfl)
    |(intro _;try (exfalso;omega)))
   all_goals first|(exfalso;omega)|contradiction|(refine Done.ret rfl (.refl _) (by first|exact trivial|exact ⟨trivial,trivial,trivial⟩|exact ⟨trivial,trivial,trivial,trivial⟩) HCov.nil (Nat.zero_le _) (Nat.le_refl _) ⟨?_,rfl,rfl⟩;rfl)
  ·exact stE _ (by simp) (segsE_one ⟨by simp only;omega,by simp only;omega,Int.le_refl _⟩ (drwE_one dOne))
  ·refine sm _ (by simp) (fun j hj=>?_)
   obtain rfl:j=0:=by simp at hj;omega
   show 1<1000000
   decide
 by_cases k01:x.kind % 6<2
 ·refine ⟨⟨nmI 83 i,F,[⟨lo,hi,[⟨(x.rank:Int) % rk.length,sh⟩]⟩]⟩,?_,rfl,?_,?_⟩
  ·refine VFun.enter (env_none (by decide)) Tryz.func42 rfl (by kernel_rfl) (by simp [Tryz.ntmps42]) ?_
   repeat' (first
    |(refine VWp.at 5 ?_;refine VWp.ghost (Ghost.freeze 13 rfl rfl) ?_;first|apply VWp.rseq|apply VWp.rseqD)
    |(refine VWp.at 22 ?_;refine VWp.ghost (Ghost.freezeCell 4 3 rfl rfl rfl) ?_;first|apply VWp.rseq|apply VWp.rseqD)
    |apply VWp.assoc
    |apply VWp.rseq
    |apply VWp.rseqD
    |apply VWp.region
    |apply VWp.blockSeq
    |apply QSeq.normal
    |apply QBlk.normal
    |apply VWp.ret
    |apply VOps.nil
    |apply VOpsD.nil
    |apply VOps.one
    |(apply VOpsD.bar;decide +kernel)
    |apply VOpsD.quiet
    |(apply VVal.fn;rfl;rfl;exact hf6;intro _;rfl)
    |(apply VVal.fn;rfl;rfl;exact q1;intro _;rfl)
    |(apply VVal.ofByte1;rfl;rfl;rfl;rfl;rfl;omega)
    |(apply VVal.indexN (l:=rk) (i:=x.rank % rk.length);rfl;rfl;rfl;exact hnl;rfl)
    |(apply VVal.assign;rfl)
    |(apply VVal.move;rfl)
    |(apply VVal.add64;rfl;rfl;omega)
    |(apply VVal.sub64;rfl;rfl;omega)
    |(apply VVal.remI;rfl;rfl;omega;omega)
    |(apply VVal.int;rfl;rfl;rfl)
    |(apply VVal.load;rfl;rfl)
    |(apply VVal.lenF;rfl;rfl)
    |(apply VVal.fieldB;rfl;rfl;rfl)
    |(apply VVal.fieldF;rfl;rfl)
    |(apply VVal.box;rfl;trivial)
    |(apply VVal.alloc;rfl)
    |(apply VVal.storeB;rfl;rfl;rfl;trivial;rfl;rfl;exact lt_dec rfl;exact le_dec rfl)
    |(apply VVal.build;rfl;rfl;rfl;rfl;rfl)
    |(apply VVal.buildSlice;rfl;rfl;rfl;decide;rfl;rfl;rfl)
    |(apply VVal.addS;rfl;rfl;(first|omega|(simp only [List.length_take,List.length_drop,List.length_append,List.length_singleton,List.length_cons,List.length_nil]<;>omega)))
    |(apply VVal.extract;rfl;rfl)
    |(apply VVal.convI;rfl;rfl;rfl;rfl;omega)
    |(apply VVal.convB;rfl;rfl;rfl;rfl;omega)
    |(apply VWp.condSeq_dec;rfl)
    |(apply VWp.cond_dec;rfl)
    |(intro _;try (exfalso;omega)))
   all_goals first|(exfalso;omega)|contradiction|(refine Done.ret rfl (.refl _) (by first|exact trivial|exact ⟨trivial,trivial,trivial⟩|exact ⟨trivial,trivial,trivial,trivial⟩) HCov.nil (Nat.zero_le _) (Nat.le_refl _) ⟨?_,rfl,rfl⟩;rfl)
  ·exact stE _ (by simp) (segsE_one ⟨Int.le_refl _,hc.2.1,Int.le_refl _⟩ (drwE_one dOne))
  ·refine sm _ (by simp) (fun j hj=>?_)
   obtain rfl:j=0:=by simp at hj;omega
   show 1<1000000
   decide
 by_cases hd0:d=0
 ·by_cases k3:x.kind % 6=3
  ·refine ⟨⟨nmI 83 i,F,[⟨lo+(x.at_:Int) % (hi-lo+1),hi,[⟨((x.rank:Int) % rk.length+1) % rk.length,so⟩]⟩]⟩,?_,rfl,?_,?_⟩
   ·refine VFun.enter (env_none (by decide)) Tryz.func42 rfl (by kernel_rfl) (by simp [Tryz.ntmps42]) ?_
    repeat' (first
     |(refine VWp.at 17 ?_;refine VWp.ghost (Ghost.trans (Ghost.freeze 15 rfl rfl) (Ghost.adoptCell 4 3 55 rfl rfl)) ?_;first|apply VWp.rseq|apply VWp.rseqD)
     |(refine VWp.at 5 ?_;refine VWp.ghost (Ghost.freeze 13 rfl rfl) ?_;first|apply VWp.rseq|apply VWp.rseqD)
     |(refine VWp.at 22 ?_;refine VWp.ghost (Ghost.freezeCell 4 3 rfl rfl rfl) ?_;first|apply VWp.rseq|apply VWp.rseqD)
     |apply VWp.assoc
     |apply VWp.rseq
     |apply VWp.rseqD
     |apply VWp.region
     |apply VWp.skipSeq
     |apply VWp.blockSeq
     |apply QSeq.normal
     |apply QBlk.normal
     |apply VWp.ret
     |apply VOps.nil
     |apply VOpsD.nil
     |apply VOps.one
     |(apply VOpsD.bar;decide +kernel)
     |apply VOpsD.quiet
     |(apply VVal.append1 (l:=([]:List Seg)) (a:=⟨lo+(x.at_:Int) % (hi-lo+1),hi,[⟨((x.rank:Int) % rk.length+1) % rk.length,so⟩]⟩);rfl;rfl;rfl;rfl;rfl;rfl;rfl;rfl;(intro _ h;cases h);rfl;rfl;rfl;decide;decide;(first|omega|(simp only [List.length_nil,List.length_cons]<;>omega)))
     |(apply VVal.fn;rfl;rfl;exact hf6;intro _;rfl)
     |(apply VVal.fn;rfl;rfl;exact q1;intro _;rfl)
     |(apply VVal.fn;rfl;rfl;exact q2;intro _;rfl)
     |(apply VVal.ofByte1;rfl;rfl;rfl;rfl;rfl;omega)
     |(apply VVal.indexN (l:=rk) (i:=x.rank % rk.length);rfl;rfl;rfl;exact hnl;rfl)
     |(apply VVal.indexN (l:=rk) (i:=(x.rank % rk.length+1) % rk.length);rfl;rfl;rfl;exact hml;rfl)
     |(apply VVal.assign;rfl)
     |(apply VVal.move;rfl)
     |(apply VVal.add64;rfl;rfl;omega)
     |(apply VVal.sub64;rfl;rfl;omega)
     |(apply VVal.remI;rfl;rfl;omega;omega)
     |(apply VVal.int;rfl;rfl;rfl)
     |(apply VVal.load;rfl;rfl)
     |(apply VVal.lenF;rfl;rfl)
     |(apply VVal.fieldB;rfl;rfl;rfl)
     |(apply VVal.fieldF;rfl;rfl)
     |(apply VVal.box;rfl;trivial)
     |(apply VVal.alloc;rfl)
     |(apply VVal.storeB;rfl;rfl;rfl;trivial;rfl;rfl;exact lt_dec rfl;exact le_dec rfl)
     |(apply VVal.build;rfl;rfl;rfl;rfl;rfl)
     |(apply VVal.buildSlice;rfl;rfl;rfl;decide;rfl;rfl;rfl)
     |(apply VVal.addS;rfl;rfl;(first|omega|(simp only [List.length_take,List.length_drop,List.length_append,List.length_singleton,List.length_cons,List.length_nil]<;>omega)))
     |(apply VVal.extract;rfl;rfl)
     |(apply VVal.convI;rfl;rfl;rfl;rfl;omega)
     |(apply VVal.convB;rfl;rfl;rfl;rfl;omega)
     |(apply VWp.condSeq_dec;rfl)
     |(apply VWp.cond_dec;rfl)
     |(intro _;try (exfalso;omega)))
    all_goals first|(exfalso;omega)|contradiction|(refine Done.ret rfl (.refl _) (by first|exact trivial|exact ⟨trivial,trivial,trivial⟩|exact ⟨trivial,trivial,trivial,trivial⟩) HCov.nil (Nat.zero_le _) (Nat.le_refl _) ⟨?_,rfl,rfl⟩;rfl)
   ·exact stE _ (by simp) (segsE_one ⟨by simp only;omega,by simp only;omega,Int.le_refl _⟩ (drwE_one dSo))
   ·refine sm _ (by simp) (fun j hj=>?_)
    obtain rfl:j=0:=by simp at hj;omega
    show 1<1000000
    decide
  ·refine ⟨⟨nmI 83 i,F,[⟨lo+(x.at_:Int) % (hi-lo+1),hi,[⟨(x.rank:Int) % rk.length,sh-12⟩]⟩]⟩,?_,rfl,?_,?_⟩
   ·refine VFun.enter (env_none (by decide)) Tryz.func42 rfl (by kernel_rfl) (by simp [Tryz.ntmps42]) ?_
    repeat' (first
     |(refine VWp.at 17 ?_;refine VWp.ghost (Ghost.trans (Ghost.freeze 15 rfl rfl) (Ghost.adoptCell 4 3 55 rfl rfl)) ?_;first|apply VWp.rseq|apply VWp.rseqD)
     |(refine VWp.at 5 ?_;refine VWp.ghost (Ghost.freeze 13 rfl rfl) ?_;first|apply VWp.rseq|apply VWp.rseqD)
     |(refine VWp.at 22 ?_;refine VWp.ghost (Ghost.freezeCell 4 3 rfl rfl rfl) ?_;first|apply VWp.rseq|apply VWp.rseqD)
     |apply VWp.assoc
     |apply VWp.rseq
     |apply VWp.rseqD
     |apply VWp.region
     |apply VWp.skipSeq
     |apply VWp.blockSeq
     |apply QSeq.normal
     |apply QBlk.normal
     |apply VWp.ret
     |apply VOps.nil
     |apply VOpsD.nil
     |apply VOps.one
     |(apply VOpsD.bar;decide +kernel)
     |apply VOpsD.quiet
     |(apply VVal.append1 (l:=([]:List Seg)) (a:=⟨lo+(x.at_:Int) % (hi-lo+1),hi,[⟨(x.rank:Int) % rk.length,sh-12⟩]⟩);rfl;rfl;rfl;rfl;rfl;rfl;rfl;rfl;(intro _ h;cases h);rfl;rfl;rfl;decide;decide;(first|omega|(simp only [List.length_nil,List.length_cons]<;>omega)))
     |(apply VVal.fn;rfl;rfl;exact hf6;intro _;rfl)
     |(apply VVal.fn;rfl;rfl;exact q1;intro _;rfl)
     |(apply VVal.ofByte1;rfl;rfl;rfl;rfl;rfl;omega)
     |(apply VVal.indexN (l:=rk) (i:=x.rank % rk.length);rfl;rfl;rfl;exact hnl;rfl)
     |(apply VVal.assign;rfl)
     |(apply VVal.move;rfl)
     |(apply VVal.add64;rfl;rfl;omega)
     |(apply VVal.sub64;rfl;rfl;omega)
     |(apply VVal.remI;rfl;rfl;omega;omega)
     |(apply VVal.int;rfl;rfl;rfl)
     |(apply VVal.load;rfl;rfl)
     |(apply VVal.lenF;rfl;rfl)
     |(apply VVal.fieldB;rfl;rfl;rfl)
     |(apply VVal.fieldF;rfl;rfl)
     |(apply VVal.box;rfl;trivial)
     |(apply VVal.alloc;rfl)
     |(apply VVal.storeB;rfl;rfl;rfl;trivial;rfl;rfl;exact lt_dec rfl;exact le_dec rfl)
     |(apply VVal.build;rfl;rfl;rfl;rfl;rfl)
     |(apply VVal.buildSlice;rfl;rfl;rfl;decide;rfl;rfl;rfl)
     |(apply VVal.addS;rfl;rfl;(first|omega|(simp only [List.length_take,List.length_drop,List.length_append,List.length_singleton,List.length_cons,List.length_nil]<;>omega)))
     |(apply VVal.extract;rfl;rfl)
     |(apply VVal.convI;rfl;rfl;rfl;rfl;omega)
     |(apply VVal.convB;rfl;rfl;rfl;rfl;omega)
     |(apply VWp.condSeq_dec;rfl)
     |(apply VWp.cond_dec;rfl)
     |(intro _;try (exfalso;omega)))
    all_goals first|(exfalso;omega)|contradiction|(refine Done.ret rfl (.refl _) (by first|exact trivial|exact ⟨trivial,trivial,trivial⟩|exact ⟨trivial,trivial,trivial,trivial⟩) HCov.nil (Nat.zero_le _) (Nat.le_refl _) ⟨?_,rfl,rfl⟩;rfl)
   ·exact stE _ (by simp) (segsE_one ⟨by simp only;omega,by simp only;omega,Int.le_refl _⟩ (drwE_one dTw))
   ·refine sm _ (by simp) (fun j hj=>?_)
    obtain rfl:j=0:=by simp at hj;omega
    show 1<1000000
    decide
 ·by_cases k3:x.kind % 6=3
  ·refine ⟨⟨nmI 83 i,F,[⟨lo,lo+(x.at_:Int) % (hi-lo+1)-1,[⟨(x.rank:Int) % rk.length,sh⟩]⟩,⟨lo+(x.at_:Int) % (hi-lo+1),hi,[⟨((x.rank:Int) % rk.length+1) % rk.length,so⟩]⟩]⟩,?_,rfl,?_,?_⟩
   ·refine VFun.enter (env_none (by decide)) Tryz.func42 rfl (by kernel_rfl) (by simp [Tryz.ntmps42]) ?_
    repeat' (first
     |(refine VWp.at 17 ?_;refine VWp.ghost (Ghost.trans (Ghost.freeze 15 rfl rfl) (Ghost.adoptCell 4 3 55 rfl rfl)) ?_;first|apply VWp.rseq|apply VWp.rseqD)
     |(refine VWp.at 5 ?_;refine VWp.ghost (Ghost.freeze 13 rfl rfl) ?_;first|apply VWp.rseq|apply VWp.rseqD)
     |(refine VWp.at 22 ?_;refine VWp.ghost (Ghost.freezeCell 4 3 rfl rfl rfl) ?_;first|apply VWp.rseq|apply VWp.rseqD)
     |apply VWp.assoc
     |apply VWp.rseq
     |apply VWp.rseqD
     |apply VWp.region
     |apply VWp.skipSeq
     |apply VWp.blockSeq
     |apply QSeq.normal
     |apply QBlk.normal
     |apply VWp.ret
     |apply VOps.nil
     |apply VOpsD.nil
     |apply VOps.one
     |(apply VOpsD.bar;decide +kernel)
     |apply VOpsD.quiet
     |(apply VVal.append1 (l:=([]:List Seg)) (a:=⟨lo,lo+(x.at_:Int) % (hi-lo+1)-1,[⟨(x.rank:Int) % rk.length,sh⟩]⟩);rfl;rfl;rfl;rfl;rfl;rfl;rfl;rfl;(intro _ h;cases h);rfl;rfl;rfl;decide;decide;(first|omega|(simp only [List.length_nil,List.length_cons]<;>omega)))
     |(apply VVal.append1 (l:=([⟨lo,lo+(x.at_:Int) % (hi-lo+1)-1,[⟨(x.rank:Int) % rk.length,sh⟩]⟩]:List Seg)) (a:=⟨lo+(x.at_:Int) % (hi-lo+1),hi,[⟨((x.rank:Int) % rk.length+1) % rk.length,so⟩]⟩);rfl;rfl;rfl;rfl;rfl;rfl;rfl;rfl;(intro _ h;cases h);rfl;rfl;rfl;decide;decide;(first|omega|(simp only [List.length_nil,List.length_cons]<;>omega)))
     |(apply VVal.fn;rfl;rfl;exact hf6;intro _;rfl)
     |(apply VVal.fn;rfl;rfl;exact q1;intro _;rfl)
     |(apply VVal.fn;rfl;rfl;exact q2;intro _;rfl)
     |(apply VVal.ofByte1;rfl;rfl;rfl;rfl;rfl;omega)
     |(apply VVal.indexN (l:=rk) (i:=x.rank % rk.length);rfl;rfl;rfl;exact hnl;rfl)
     |(apply VVal.indexN (l:=rk) (i:=(x.rank % rk.length+1) % rk.length);rfl;rfl;rfl;exact hml;rfl)
     |(apply VVal.assign;rfl)
     |(apply VVal.move;rfl)
     |(apply VVal.add64;rfl;rfl;omega)
     |(apply VVal.sub64;rfl;rfl;omega)
     |(apply VVal.remI;rfl;rfl;omega;omega)
     |(apply VVal.int;rfl;rfl;rfl)
     |(apply VVal.load;rfl;rfl)
     |(apply VVal.lenF;rfl;rfl)
     |(apply VVal.fieldB;rfl;rfl;rfl)
     |(apply VVal.fieldF;rfl;rfl)
     |(apply VVal.box;rfl;trivial)
     |(apply VVal.alloc;rfl)
     |(apply VVal.storeB;rfl;rfl;rfl;trivial;rfl;rfl;exact lt_dec rfl;exact le_dec rfl)
     |(apply VVal.build;rfl;rfl;rfl;rfl;rfl)
     |(apply VVal.buildSlice;rfl;rfl;rfl;decide;rfl;rfl;rfl)
     |(apply VVal.addS;rfl;rfl;(first|omega|(simp only [List.length_take,List.length_drop,List.length_append,List.length_singleton,List.length_cons,List.length_nil]<;>omega)))
     |(apply VVal.extract;rfl;rfl)
     |(apply VVal.convI;rfl;rfl;rfl;rfl;omega)
     |(apply VVal.convB;rfl;rfl;rfl;rfl;omega)
     |(apply VWp.condSeq_dec;rfl)
     |(apply VWp.cond_dec;rfl)
     |(intro _;try (exfalso;omega)))
    all_goals first|(exfalso;omega)|contradiction|(refine Done.ret rfl (.refl _) (by first|exact trivial|exact ⟨trivial,trivial,trivial⟩|exact ⟨trivial,trivial,trivial,trivial⟩) HCov.nil (Nat.zero_le _) (Nat.le_refl _) ⟨?_,rfl,rfl⟩;rfl)
   ·exact stE _ (by simp) (segsE_two ⟨Int.le_refl _,by simp only;omega,by simp only;omega,by simp only;omega,Int.le_refl _⟩ (drwE_one dOne) (drwE_one dSo))
   ·refine sm _ (by simp) (fun j hj=>?_)
    have:j=0∨j=1:=by simp at hj;omega
    rcases this with rfl|rfl
    ·show 1<1000000
     decide
    ·show 1<1000000
     decide
  ·refine ⟨⟨nmI 83 i,F,[⟨lo,lo+(x.at_:Int) % (hi-lo+1)-1,[⟨(x.rank:Int) % rk.length,sh⟩]⟩,⟨lo+(x.at_:Int) % (hi-lo+1),hi,[⟨(x.rank:Int) % rk.length,sh-12⟩]⟩]⟩,?_,rfl,?_,?_⟩
   ·refine VFun.enter (env_none (by decide)) Tryz.func42 rfl (by kernel_rfl) (by simp [Tryz.ntmps42]) ?_
    repeat' (first
     |(refine VWp.at 17 ?_;refine VWp.ghost (Ghost.trans (Ghost.freeze 15 rfl rfl) (Ghost.adoptCell 4 3 55 rfl rfl)) ?_;first|apply VWp.rseq|apply VWp.rseqD)
     |(refine VWp.at 5 ?_;refine VWp.ghost (Ghost.freeze 13 rfl rfl) ?_;first|apply VWp.rseq|apply VWp.rseqD)
     |(refine VWp.at 22 ?_;refine VWp.ghost (Ghost.freezeCell 4 3 rfl rfl rfl) ?_;first|apply VWp.rseq|apply VWp.rseqD)
     |apply VWp.assoc
     |apply VWp.rseq
     |apply VWp.rseqD
     |apply VWp.region
     |apply VWp.skipSeq
     |apply VWp.blockSeq
     |apply QSeq.normal
     |apply QBlk.normal
     |apply VWp.ret
     |apply VOps.nil
     |apply VOpsD.nil
     |apply VOps.one
     |(apply VOpsD.bar;decide +kernel)
     |apply VOpsD.quiet
     |(apply VVal.append1 (l:=([]:List Seg)) (a:=⟨lo,lo+(x.at_:Int) % (hi-lo+1)-1,[⟨(x.rank:Int) % rk.length,sh⟩]⟩);rfl;rfl;rfl;rfl;rfl;rfl;rfl;rfl;(intro _ h;cases h);rfl;rfl;rfl;decide;decide;(first|omega|(simp only [List.length_nil,List.length_cons]<;>omega)))
     |(apply VVal.append1 (l:=([⟨lo,lo+(x.at_:Int) % (hi-lo+1)-1,[⟨(x.rank:Int) % rk.length,sh⟩]⟩]:List Seg)) (a:=⟨lo+(x.at_:Int) % (hi-lo+1),hi,[⟨(x.rank:Int) % rk.length,sh-12⟩]⟩);rfl;rfl;rfl;rfl;rfl;rfl;rfl;rfl;(intro _ h;cases h);rfl;rfl;rfl;decide;decide;(first|omega|(simp only [List.length_nil,List.length_cons]<;>omega)))
     |(apply VVal.fn;rfl;rfl;exact hf6;intro _;rfl)
     |(apply VVal.fn;rfl;rfl;exact q1;intro _;rfl)
     |(apply VVal.ofByte1;rfl;rfl;rfl;rfl;rfl;omega)
     |(apply VVal.indexN (l:=rk) (i:=x.rank % rk.length);rfl;rfl;rfl;exact hnl;rfl)
     |(apply VVal.assign;rfl)
     |(apply VVal.move;rfl)
     |(apply VVal.add64;rfl;rfl;omega)
     |(apply VVal.sub64;rfl;rfl;omega)
     |(apply VVal.remI;rfl;rfl;omega;omega)
     |(apply VVal.int;rfl;rfl;rfl)
     |(apply VVal.load;rfl;rfl)
     |(apply VVal.lenF;rfl;rfl)
     |(apply VVal.fieldB;rfl;rfl;rfl)
     |(apply VVal.fieldF;rfl;rfl)
     |(apply VVal.box;rfl;trivial)
     |(apply VVal.alloc;rfl)
     |(apply VVal.storeB;rfl;rfl;rfl;trivial;rfl;rfl;exact lt_dec rfl;exact le_dec rfl)
     |(apply VVal.build;rfl;rfl;rfl;rfl;rfl)
     |(apply VVal.buildSlice;rfl;rfl;rfl;decide;rfl;rfl;rfl)
     |(apply VVal.addS;rfl;rfl;(first|omega|(simp only [List.length_take,List.length_drop,List.length_append,List.length_singleton,List.length_cons,List.length_nil]<;>omega)))
     |(apply VVal.extract;rfl;rfl)
     |(apply VVal.convI;rfl;rfl;rfl;rfl;omega)
     |(apply VVal.convB;rfl;rfl;rfl;rfl;omega)
     |(apply VWp.condSeq_dec;rfl)
     |(apply VWp.cond_dec;rfl)
     |(intro _;try (exfalso;omega)))
    all_goals first|(exfalso;omega)|contradiction|(refine Done.ret rfl (.refl _) (by first|exact trivial|exact ⟨trivial,trivial,trivial⟩|exact ⟨trivial,trivial,trivial,trivial⟩) HCov.nil (Nat.zero_le _) (Nat.le_refl _) ⟨?_,rfl,rfl⟩;rfl)
   ·exact stE _ (by simp) (segsE_two ⟨Int.le_refl _,by simp only;omega,by simp only;omega,by simp only;omega,Int.le_refl _⟩ (drwE_one dOne) (drwE_one dTw))
   ·refine sm _ (by simp) (fun j hj=>?_)
    have:j=0∨j=1:=by simp at hj;omega
    rcases this with rfl|rfl
    ·show 1<1000000
     decide
    ·show 1<1000000
     decide
end Go.Proofs.YtcnlhgmkelkikaaGreatDoor
