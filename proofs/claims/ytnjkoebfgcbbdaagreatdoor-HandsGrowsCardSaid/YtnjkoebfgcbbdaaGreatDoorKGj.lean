/-
  Texts of a proof, merged (OrF, RkJ, RkK, RkL, OrG, OrH, OrI, OrC, OrD). Conditions: in each statement.
-/
import Derived.Test.YtnjkoebfgcbbdaaGreatDoorKGi
set_option linter.unusedSimpArgs false
set_option linter.unusedVariables false
set_option linter.unusedSectionVars false
set_option maxRecDepth 100000
set_option maxHeartbeats 8000000
abbrev bh:=@Int.le_refl
abbrev bv:=@Int.emod_lt_of_pos
abbrev bx:=@Int.emod_nonneg
namespace Go.Proofs.YtnjkoebfgcbbdaaGreatDoor
open Go Go.Am Go.Vm
attribute [local irreducible] Aa Ai Ag Ad AP Ak Bf BM Bq Ah Vm.Done BD AB
structure Pul where
 rank:Nat
 D5:Nat
 kind:Nat
 at_:Nat
instance:Enc Pul:={ default:=⟨0,0,0,0⟩,enc:=fun x=>[.int .u8 (x.rank:Int),.int .u8 (x.D5:Int),.int .u8 (x.kind:Int),.int .u8 (x.at_:Int)],size:=4,len:=fun _=>rfl }
structure Pul.Ok (x:Pul):Prop where
 rank:x.rank<256
 D5:x.D5<256
 kind:x.kind<256
 at_:x.at_<256
structure Brd where
 low:Nat
 keys:Nat
 WJ:Bool
 stops:List Pul
instance:Enc Brd:={ default:=⟨0,0,false,[]⟩,enc:=fun x=>[.int .u8 (x.low:Int),.int .u8 (x.keys:Int),.bool x.WJ,.lst 232 (cells x.stops) x.stops.length],size:=4,len:=fun _=>rfl }
structure Brd.Ok (x:Brd):Prop where
 low:x.low<256
 keys:x.keys<256
 stops:x.stops.length<9223372036854775808
 all:∀ i,i<x.stops.length→(gi x.stops i).Ok
structure Lnk where
 VY:Nat
 tgt:Nat
 shift:Int
 through:Bool
instance:Enc Lnk:={ default:=⟨0,0,0,false⟩,enc:=fun x=>[.int .u8 (x.VY:Int),.int .u8 (x.tgt:Int),.int .i8 x.shift,.bool x.through],size:=4,len:=fun _=>rfl }
structure Lnk.Ok (x:Lnk):Prop where
 VY:x.VY<256
 tgt:x.tgt<256
 shift:-128≤x.shift∧x.shift≤127
instance b9t:Enc GK:={ default:=⟨0,0,0,0,[]⟩,enc:=GK.enc,size:=9,len:=fun _=>rfl }
structure OPl where
 ranks:List GK
 Af:List Brd
 links:List Lnk
def OPl.enc (x:OPl):List FV:=[.lst 226 (cells x.ranks) x.ranks.length,.lst 211 (cells x.Af) x.Af.length,.lst 234 (cells x.links) x.links.length]
structure OPl.Ok (x:OPl):Prop where
 ranks:∀ i,i<x.ranks.length→(gi x.ranks i).Ok
 Af:∀ i,i<x.Af.length→(gi x.Af i).Ok
 links:∀ i,i<x.links.length→(gi x.links i).Ok
 nr:x.ranks.length<9223372036854775808
 nd:x.Af.length<9223372036854775808
 nl:x.links.length<9223372036854775808
def Ro:List KI:=[⟨8,1⟩,⟨4,1⟩,⟨16,1⟩,⟨8,3⟩,⟨2,1⟩,⟨8,5⟩]
theorem xB (n:Nat) (hn:n<256):Ak env 151 [.int .u8 (n:Int)] (.p (.agg (Enc.enc (gi Ro (n % 6))))):=by
 refine Ak.enter (Ae (by decide)) Tryz.func151 rfl (by kernel_rfl) (by simp [Tryz.ntmps151]) ?_;have hlt:n % 6<6:=ba _ (by decide)
 repeat' (first|(refine Ai.Je 12 ?_;refine Ai.ghost (Aw.freeze 9 rfl rfl) ?_)|apply Ad.BL|apply Ad.ret|apply Ai.nil|apply Ai.one|(apply Aa.Ap (l:=Ro) (i:=n % 6);rfl;rfl;rfl;exact hlt;rfl)|(apply Aa.move;rfl)|(apply Aa.bJ;rfl;rfl;omega;omega)|(apply Aa.load;rfl;rfl)|(apply Aa.alloc;rfl)|(apply Aa.FD;rfl;rfl;rfl;trivial;rfl;rfl;exact Bh rfl;exact le_dec rfl)|(apply Aa.build;rfl;rfl;rfl;rfl;rfl)|(apply Aa.buildSlice;rfl;rfl;rfl;decide;rfl;rfl;rfl))
 all_goals (refine Done.rt rfl rfl ⟨?_,rfl,rfl⟩;try rfl)
theorem a8m:∀ n,n<6→pOk (gi Ro n) :=by decide
theorem a8l:∀ a,a<6→∀ b,b<16→(AZ (gi Ro a) (gi Rt b)).2=0∧-100≤(AZ (gi Ro a) (gi Rt b)).1∧(AZ (gi Ro a) (gi Rt b)).1≤100 :=by decide
structure yP (rk:List Ho):Prop where
 len:0<rk.length∧rk.length≤3
 ok:∀ i,i<rk.length→Ci (gi rk i)=0∧∃ b,b<16∧(gi rk i).D5=gi Rt b
attribute [local irreducible] Ci Ba AZ
theorem a9i (rk:List Ho) (lo hi:Int) (x:Pul) (i:Nat) (hrk:yP rk) (hc:0≤lo∧lo≤hi∧hi≤127) (hx:x.Ok) (hi9:i≤9) :
 ∃ s:Stp,Ak env 115 [.lst 113 (cells rk) rk.length,.agg [.int .i64 lo,.int .i64 hi],.agg (Enc.enc x),.int .i64 (i:Int)] (.p (.agg (Enc.enc s)))∧s.name=Oz 83 i∧DV rk lo hi s=0∧oD s∧∃ a,a<6∧s.D5=gi Ro a:=by
 obtain ⟨hl,hok⟩:=hrk;obtain ⟨x1,x2,x3,x4⟩:=hx;obtain ⟨n,hn⟩:∃ n,n=x.rank % rk.length:=⟨_,rfl⟩
 have hnl:n<rk.length:=by rw [hn];exact ba _ hl.1
 obtain ⟨m,hm⟩:∃ m,m=(n+1) % rk.length:=⟨_,rfl⟩
 have hml:m<rk.length:=by rw [hm];exact ba _ hl.1
 have hf6:=xB x.D5 x2;have h6:x.D5 % 6<6:=ba _ (by decide);have f6:=a8m _ h6;obtain ⟨-,b,hb,eb⟩:=hok n hnl;obtain ⟨-,c,hc2,ec⟩:=hok m hml;have s1:=a8l _ h6 b hb;have s2:=a8l _ h6 c hc2;rw [← eb] at s1;rw [← ec] at s2;generalize hF:gi Ro (x.D5 % 6)=F at *;have q1:=WR F (gi rk n).D5;have q2:=WR F (gi rk m).D5;rw [s1.1] at q1;rw [s2.1] at q2;generalize (AZ F (gi rk n).D5).1=sh at *;generalize (AZ F (gi rk m).D5).1=so at *;have c3k:ql rk lo hi=0:=a1s (fun i h=>(hok i h).1) (by omega) hc;have stE:∀ g:List Seg,(0<g.length∧g.length≤12)→MW rk.length lo hi g 0=0→DV rk lo hi ⟨Oz 83 i,F,g⟩=0:=fun g h1 h2=>by
  unfold DV b6q;rw [if_neg (fun h=>h c3k),if_neg (fun h=>h (sJ (by decide) (by omega))),if_neg (fun h=>h (TI.2 f6)),if_neg (by simp only;omega),if_neg (by simp only;omega)];exact h2
 have sm:∀ g:List Seg,g.length<1000000→(∀ j,j<g.length→(gi g j).draws.length<1000000)→oD ⟨Oz 83 i,F,g⟩:=fun g h1 h2=>⟨by simp [Oz],h1,fun j hj=>⟨h2 j hj⟩⟩
 have mG:Xf rk.length ⟨n,sh⟩:=⟨⟨by simp only;omega,by simp only;omega⟩,⟨by simp only;omega,by simp only;omega⟩⟩
 have hn2:(n:Int)=(x.rank:Int) % rk.length:=by rw [hn];simp
 obtain ⟨d,hd⟩:∃ d:Nat,(d:Int)=(x.at_:Int) % (hi-lo+1):=⟨((x.at_:Int) % (hi-lo+1)).toNat,by have:=bx (x.at_:Int) (show hi-lo+1≠0 by omega);omega⟩
 have hd2:(d:Int)≤hi-lo:=by have:=bv (x.at_:Int) (show 0<hi-lo+1 by omega);omega
 have hk6:x.kind % 6<6:=ba _ (by decide);rw [hm,hn] at q2 hml;rw [hn] at q1 hnl;have hm2:(m:Int)=((x.rank:Int) % rk.length+1) % rk.length:=by rw [hm,hn];simp
 have hAt:lo+(d:Int)=lo+(x.at_:Int) % (hi-lo+1):=by omega
 rw [hn2] at mG;have dSo:Xf rk.length ⟨((x.rank:Int) % rk.length+1) % rk.length,so⟩:=by
  rw [← hm2];exact ⟨⟨by simp only;omega,by simp only;rw [hm];have:=ba (n+1) hl.1;omega⟩,⟨by simp only;omega,by simp only;omega⟩⟩
 have dTw:Xf rk.length ⟨(x.rank:Int) % rk.length,sh-12⟩:=⟨mG.rank,⟨by simp only;omega,by simp only;omega⟩⟩
 have dTh:Xf rk.length ⟨(x.rank:Int) % rk.length,sh+7⟩:=⟨mG.rank,⟨by simp only;omega,by simp only;omega⟩⟩
 by_cases k2:x.kind % 6=2
 ·refine ⟨⟨Oz 83 i,F,[⟨lo,hi,[⟨(x.rank:Int) % rk.length,sh⟩,⟨(x.rank:Int) % rk.length,sh+7⟩]⟩]⟩,?_,rfl,?_,?_,_,h6,hF.symm⟩
  ·refine Ak.enter (Ae (by decide)) Tryz.func115 rfl (by kernel_rfl) (by simp [Tryz.ntmps115]) ?_
   repeat' (first|(refine Ad.at 5 ?_;refine Ad.ghost (Aw.freeze 13 rfl rfl) ?_;first|apply Ad.BL|apply Ad.CO)|(refine Ad.at 22 ?_;refine Ad.ghost (Aw.Dk 4 3 rfl rfl rfl) ?_;first|apply Ad.BL|apply Ad.CO)|(refine Ai.Je 88 ?_;refine Ai.ghost (Aw.freeze 87 rfl rfl) ?_)|apply Ad.assoc|apply Ad.BL|apply Ad.CO|apply Ad.region|apply Ad.FP|apply BM.normal|apply Bq.normal|apply Ad.ret|apply Ai.nil|apply Ag.nil|apply Ai.one|(apply Ag.bar;decide +kernel)|apply Ag.quiet|(apply Aa.fn;rfl;rfl;exact hf6;intro _;rfl)|(apply Aa.fn;rfl;rfl;exact q1;intro _;rfl)|(apply Aa.Ig;rfl;rfl;rfl;rfl;rfl;omega)|(apply Aa.Ap (l:=rk) (i:=x.rank % rk.length);rfl;rfl;rfl;exact hnl;rfl)|(apply Aa.assign;rfl)|(apply Aa.move;rfl)|(apply Aa.LV;rfl;rfl;omega)|(apply Aa.rQ;rfl;rfl;omega)|(apply Aa.bJ;rfl;rfl;omega;omega)|(apply Aa.int;rfl;rfl;rfl)|(apply Aa.load;rfl;rfl)|(apply Aa.vZ;rfl;rfl)|(apply Aa.Ii;rfl;rfl;rfl)|(apply Aa.kL;rfl;rfl)|(apply Aa.box;rfl;trivial)|(apply Aa.alloc;rfl)|(apply Aa.FD;rfl;rfl;rfl;trivial;rfl;rfl;exact Bh rfl;exact le_dec rfl)|(apply Aa.build;rfl;rfl;rfl;rfl;rfl)|(apply Aa.buildSlice;rfl;rfl;rfl;decide;rfl;rfl;rfl)|(apply Aa.XE;rfl;rfl;(first|omega|(simp only [List.length_take,List.length_drop,List.length_append,List.length_singleton,List.length_cons,List.length_nil]<;>omega)))|(apply Aa.extract;rfl;rfl)|(apply Aa.Gh;rfl;rfl;rfl;rfl;omega)|(apply Aa.Nc;rfl;rfl;rfl;rfl;omega)|(apply Ad.Au;rfl)|(intro _;try (exfalso;omega)))
   all_goals first|(exfalso;omega)|contradiction|(refine Done.rt rfl rfl ⟨?_,rfl,rfl⟩;rfl)
  ·exact stE _ (by simp) (Nh ⟨bh _,hc.2.1,bh _⟩ (a7c mG dTh (fun h=>by have:=congrArg rV.shift h;simp only at this;omega)))
  ·refine sm _ (by simp) (fun j hj=>?_)
   obtain rfl:j=0:=by simp at hj;omega
   show 2<1000000;decide
 by_cases k5:x.kind % 6=5
 ·refine ⟨⟨Oz 83 i,F,[⟨lo+(x.at_:Int) % (hi-lo+1),hi,[⟨(x.rank:Int) % rk.length,sh⟩]⟩]⟩,?_,rfl,?_,?_,_,h6,hF.symm⟩
  ·refine Ak.enter (Ae (by decide)) Tryz.func115 rfl (by kernel_rfl) (by simp [Tryz.ntmps115]) ?_
   repeat' (first|(refine Ad.at 5 ?_;refine Ad.ghost (Aw.freeze 13 rfl rfl) ?_;first|apply Ad.BL|apply Ad.CO)|(refine Ad.at 22 ?_;refine Ad.ghost (Aw.Dk 4 3 rfl rfl rfl) ?_;first|apply Ad.BL|apply Ad.CO)|(apply Aa.fn;rfl;rfl;exact hf6;intro _;rfl)|(apply Aa.fn;rfl;rfl;exact q1;intro _;rfl)|(apply Aa.Ap (l:=rk) (i:=x.rank % rk.length);rfl;rfl;rfl;exact hnl;rfl)|refine Zm ?_|apply Ad.BL|apply Ad.CO|apply Ad.region|(apply Aa.Ig;rfl;rfl;rfl;rfl;rfl;omega)|(apply Aa.int;rfl;rfl;rfl)|(apply Aa.build;rfl;rfl;rfl;rfl;rfl)|(apply Aa.buildSlice;rfl;rfl;rfl;decide;rfl;rfl;rfl)|(apply Aa.XE;rfl;rfl;(first|omega|(simp only [List.length_take,List.length_drop,List.length_append,List.length_singleton,List.length_cons,List.length_nil]<;>omega)))|(apply Aa.Gh;rfl;rfl;rfl;rfl;omega)|(apply Aa.Nc;rfl;rfl;rfl;rfl;omega)|(apply Ad.Ac;rfl)|(apply Ad.Au;rfl)|(intro _;try (exfalso;omega)))
   all_goals first|(exfalso;omega)|contradiction|(refine Done.rt rfl rfl ⟨?_,rfl,rfl⟩;rfl)
  ·exact stE _ (by simp) (Nh ⟨by simp only;omega,by simp only;omega,bh _⟩ (JI mG))
  ·refine sm _ (by simp) (fun j hj=>?_)
   obtain rfl:j=0:=by simp at hj;omega
   show 1<1000000;decide
 by_cases k01:x.kind % 6<2
 ·refine ⟨⟨Oz 83 i,F,[⟨lo,hi,[⟨(x.rank:Int) % rk.length,sh⟩]⟩]⟩,?_,rfl,?_,?_,_,h6,hF.symm⟩
  ·refine Ak.enter (Ae (by decide)) Tryz.func115 rfl (by kernel_rfl) (by simp [Tryz.ntmps115]) ?_
   repeat' (first|(refine Ad.at 5 ?_;refine Ad.ghost (Aw.freeze 13 rfl rfl) ?_;first|apply Ad.BL|apply Ad.CO)|(refine Ad.at 22 ?_;refine Ad.ghost (Aw.Dk 4 3 rfl rfl rfl) ?_;first|apply Ad.BL|apply Ad.CO)|(apply Aa.fn;rfl;rfl;exact hf6;intro _;rfl)|(apply Aa.fn;rfl;rfl;exact q1;intro _;rfl)|(apply Aa.Ap (l:=rk) (i:=x.rank % rk.length);rfl;rfl;rfl;exact hnl;rfl)|refine Zm ?_|apply Ad.BL|apply Ad.CO|apply Ad.region|(apply Aa.Ig;rfl;rfl;rfl;rfl;rfl;omega)|(apply Aa.int;rfl;rfl;rfl)|(apply Aa.build;rfl;rfl;rfl;rfl;rfl)|(apply Aa.buildSlice;rfl;rfl;rfl;decide;rfl;rfl;rfl)|(apply Aa.XE;rfl;rfl;(first|omega|(simp only [List.length_take,List.length_drop,List.length_append,List.length_singleton,List.length_cons,List.length_nil]<;>omega)))|(apply Aa.Gh;rfl;rfl;rfl;rfl;omega)|(apply Aa.Nc;rfl;rfl;rfl;rfl;omega)|(apply Ad.Ac;rfl)|(apply Ad.Au;rfl)|(intro _;try (exfalso;omega)))
   all_goals first|(exfalso;omega)|contradiction|(refine Done.rt rfl rfl ⟨?_,rfl,rfl⟩;rfl)
  ·exact stE _ (by simp) (Nh ⟨bh _,hc.2.1,bh _⟩ (JI mG))
  ·refine sm _ (by simp) (fun j hj=>?_)
   obtain rfl:j=0:=by simp at hj;omega
   show 1<1000000;decide
 by_cases hd0:d=0
 ·by_cases k3:x.kind % 6=3
  ·refine ⟨⟨Oz 83 i,F,[⟨lo+(x.at_:Int) % (hi-lo+1),hi,[⟨((x.rank:Int) % rk.length+1) % rk.length,so⟩]⟩]⟩,?_,rfl,?_,?_,_,h6,hF.symm⟩
   ·refine Ak.enter (Ae (by decide)) Tryz.func115 rfl (by kernel_rfl) (by simp [Tryz.ntmps115]) ?_
    repeat' (first|(refine Ad.at 17 ?_;refine Ad.ghost (Aw.trans (Aw.freeze 15 rfl rfl) (Aw.EP 4 3 273 rfl rfl)) ?_;first|apply Ad.BL|apply Ad.CO)|(refine Ad.at 5 ?_;refine Ad.ghost (Aw.freeze 13 rfl rfl) ?_;first|apply Ad.BL|apply Ad.CO)|(refine Ad.at 22 ?_;refine Ad.ghost (Aw.Dk 4 3 rfl rfl rfl) ?_;first|apply Ad.BL|apply Ad.CO)|(apply Aa.Dw (l:=([]:List Seg)) (a:=⟨lo+(x.at_:Int) % (hi-lo+1),hi,[⟨((x.rank:Int) % rk.length+1) % rk.length,so⟩]⟩);rfl;rfl;rfl;rfl;rfl;rfl;rfl;rfl;(intro _ h;cases h);rfl;rfl;rfl;decide;decide;(first|omega|(simp only [List.length_nil,List.length_cons]<;>omega)))|(apply Aa.fn;rfl;rfl;exact hf6;intro _;rfl)|(apply Aa.fn;rfl;rfl;exact q1;intro _;rfl)|(apply Aa.fn;rfl;rfl;exact q2;intro _;rfl)|(apply Aa.Ap (l:=rk) (i:=x.rank % rk.length);rfl;rfl;rfl;exact hnl;rfl)|(apply Aa.Ap (l:=rk) (i:=(x.rank % rk.length+1) % rk.length);rfl;rfl;rfl;exact hml;rfl)|refine Zm ?_|apply Ad.BL|apply Ad.CO|apply Ad.region|(apply Aa.Ig;rfl;rfl;rfl;rfl;rfl;omega)|(apply Aa.int;rfl;rfl;rfl)|(apply Aa.build;rfl;rfl;rfl;rfl;rfl)|(apply Aa.buildSlice;rfl;rfl;rfl;decide;rfl;rfl;rfl)|(apply Aa.XE;rfl;rfl;(first|omega|(simp only [List.length_take,List.length_drop,List.length_append,List.length_singleton,List.length_cons,List.length_nil]<;>omega)))|(apply Aa.Gh;rfl;rfl;rfl;rfl;omega)|(apply Aa.Nc;rfl;rfl;rfl;rfl;omega)|(apply Ad.Ac;rfl)|(apply Ad.Au;rfl)|(intro _;try (exfalso;omega)))
    all_goals first|(exfalso;omega)|contradiction|(refine Done.rt rfl rfl ⟨?_,rfl,rfl⟩;rfl)
   ·exact stE _ (by simp) (Nh ⟨by simp only;omega,by simp only;omega,bh _⟩ (JI dSo))
   ·refine sm _ (by simp) (fun j hj=>?_)
    obtain rfl:j=0:=by simp at hj;omega
    show 1<1000000;decide
  ·refine ⟨⟨Oz 83 i,F,[⟨lo+(x.at_:Int) % (hi-lo+1),hi,[⟨(x.rank:Int) % rk.length,sh-12⟩]⟩]⟩,?_,rfl,?_,?_,_,h6,hF.symm⟩
   ·refine Ak.enter (Ae (by decide)) Tryz.func115 rfl (by kernel_rfl) (by simp [Tryz.ntmps115]) ?_
    repeat' (first|(refine Ad.at 17 ?_;refine Ad.ghost (Aw.trans (Aw.freeze 15 rfl rfl) (Aw.EP 4 3 273 rfl rfl)) ?_;first|apply Ad.BL|apply Ad.CO)|(refine Ad.at 5 ?_;refine Ad.ghost (Aw.freeze 13 rfl rfl) ?_;first|apply Ad.BL|apply Ad.CO)|(refine Ad.at 22 ?_;refine Ad.ghost (Aw.Dk 4 3 rfl rfl rfl) ?_;first|apply Ad.BL|apply Ad.CO)|(apply Aa.Dw (l:=([]:List Seg)) (a:=⟨lo+(x.at_:Int) % (hi-lo+1),hi,[⟨(x.rank:Int) % rk.length,sh-12⟩]⟩);rfl;rfl;rfl;rfl;rfl;rfl;rfl;rfl;(intro _ h;cases h);rfl;rfl;rfl;decide;decide;(first|omega|(simp only [List.length_nil,List.length_cons]<;>omega)))|(apply Aa.fn;rfl;rfl;exact hf6;intro _;rfl)|(apply Aa.fn;rfl;rfl;exact q1;intro _;rfl)|(apply Aa.Ap (l:=rk) (i:=x.rank % rk.length);rfl;rfl;rfl;exact hnl;rfl)|refine Zm ?_|apply Ad.BL|apply Ad.CO|apply Ad.region|(apply Aa.Ig;rfl;rfl;rfl;rfl;rfl;omega)|(apply Aa.int;rfl;rfl;rfl)|(apply Aa.build;rfl;rfl;rfl;rfl;rfl)|(apply Aa.buildSlice;rfl;rfl;rfl;decide;rfl;rfl;rfl)|(apply Aa.XE;rfl;rfl;(first|omega|(simp only [List.length_take,List.length_drop,List.length_append,List.length_singleton,List.length_cons,List.length_nil]<;>omega)))|(apply Aa.Gh;rfl;rfl;rfl;rfl;omega)|(apply Aa.Nc;rfl;rfl;rfl;rfl;omega)|(apply Ad.Ac;rfl)|(apply Ad.Au;rfl)|(intro _;try (exfalso;omega)))
    all_goals first|(exfalso;omega)|contradiction|(refine Done.rt rfl rfl ⟨?_,rfl,rfl⟩;rfl)
   ·exact stE _ (by simp) (Nh ⟨by simp only;omega,by simp only;omega,bh _⟩ (JI dTw))
   ·refine sm _ (by simp) (fun j hj=>?_)
    obtain rfl:j=0:=by simp at hj;omega
    show 1<1000000;decide
 ·by_cases k3:x.kind % 6=3
  ·refine ⟨⟨Oz 83 i,F,[⟨lo,lo+(x.at_:Int) % (hi-lo+1)-1,[⟨(x.rank:Int) % rk.length,sh⟩]⟩,⟨lo+(x.at_:Int) % (hi-lo+1),hi,[⟨((x.rank:Int) % rk.length+1) % rk.length,so⟩]⟩]⟩,?_,rfl,?_,?_,_,h6,hF.symm⟩
   ·refine Ak.enter (Ae (by decide)) Tryz.func115 rfl (by kernel_rfl) (by simp [Tryz.ntmps115]) ?_
    repeat' (first|(refine Ad.at 17 ?_;refine Ad.ghost (Aw.trans (Aw.freeze 15 rfl rfl) (Aw.EP 4 3 273 rfl rfl)) ?_;first|apply Ad.BL|apply Ad.CO)|(refine Ad.at 5 ?_;refine Ad.ghost (Aw.freeze 13 rfl rfl) ?_;first|apply Ad.BL|apply Ad.CO)|(refine Ad.at 22 ?_;refine Ad.ghost (Aw.Dk 4 3 rfl rfl rfl) ?_;first|apply Ad.BL|apply Ad.CO)|(apply Aa.Dw (l:=([]:List Seg)) (a:=⟨lo,lo+(x.at_:Int) % (hi-lo+1)-1,[⟨(x.rank:Int) % rk.length,sh⟩]⟩);rfl;rfl;rfl;rfl;rfl;rfl;rfl;rfl;(intro _ h;cases h);rfl;rfl;rfl;decide;decide;(first|omega|(simp only [List.length_nil,List.length_cons]<;>omega)))|(apply Aa.Dw (l:=([⟨lo,lo+(x.at_:Int) % (hi-lo+1)-1,[⟨(x.rank:Int) % rk.length,sh⟩]⟩]:List Seg)) (a:=⟨lo+(x.at_:Int) % (hi-lo+1),hi,[⟨((x.rank:Int) % rk.length+1) % rk.length,so⟩]⟩);rfl;rfl;rfl;rfl;rfl;rfl;rfl;rfl;(intro _ h;cases h);rfl;rfl;rfl;decide;decide;(first|omega|(simp only [List.length_nil,List.length_cons]<;>omega)))|(apply Aa.fn;rfl;rfl;exact hf6;intro _;rfl)|(apply Aa.fn;rfl;rfl;exact q1;intro _;rfl)|(apply Aa.fn;rfl;rfl;exact q2;intro _;rfl)|(apply Aa.Ap (l:=rk) (i:=x.rank % rk.length);rfl;rfl;rfl;exact hnl;rfl)|(apply Aa.Ap (l:=rk) (i:=(x.rank % rk.length+1) % rk.length);rfl;rfl;rfl;exact hml;rfl)|refine Zm ?_|apply Ad.BL|apply Ad.CO|apply Ad.region|(apply Aa.Ig;rfl;rfl;rfl;rfl;rfl;omega)|(apply Aa.int;rfl;rfl;rfl)|(apply Aa.build;rfl;rfl;rfl;rfl;rfl)|(apply Aa.buildSlice;rfl;rfl;rfl;decide;rfl;rfl;rfl)|(apply Aa.XE;rfl;rfl;(first|omega|(simp only [List.length_take,List.length_drop,List.length_append,List.length_singleton,List.length_cons,List.length_nil]<;>omega)))|(apply Aa.Gh;rfl;rfl;rfl;rfl;omega)|(apply Aa.Nc;rfl;rfl;rfl;rfl;omega)|(apply Ad.Ac;rfl)|(apply Ad.Au;rfl)|(intro _;try (exfalso;omega)))
    all_goals first|(exfalso;omega)|contradiction|(refine Done.rt rfl rfl ⟨?_,rfl,rfl⟩;rfl)
   ·exact stE _ (by simp) (fU ⟨bh _,by simp only;omega,by simp only;omega,by simp only;omega,bh _⟩ (JI mG) (JI dSo))
   ·refine sm _ (by simp) (fun j hj=>?_)
    have:j=0∨j=1:=by simp at hj;omega
    rcases this with rfl|rfl
    ·show 1<1000000
     decide
    ·show 1<1000000
     decide
  ·refine ⟨⟨Oz 83 i,F,[⟨lo,lo+(x.at_:Int) % (hi-lo+1)-1,[⟨(x.rank:Int) % rk.length,sh⟩]⟩,⟨lo+(x.at_:Int) % (hi-lo+1),hi,[⟨(x.rank:Int) % rk.length,sh-12⟩]⟩]⟩,?_,rfl,?_,?_,_,h6,hF.symm⟩
   ·refine Ak.enter (Ae (by decide)) Tryz.func115 rfl (by kernel_rfl) (by simp [Tryz.ntmps115]) ?_
    repeat' (first|(refine Ad.at 17 ?_;refine Ad.ghost (Aw.trans (Aw.freeze 15 rfl rfl) (Aw.EP 4 3 273 rfl rfl)) ?_;first|apply Ad.BL|apply Ad.CO)|(refine Ad.at 5 ?_;refine Ad.ghost (Aw.freeze 13 rfl rfl) ?_;first|apply Ad.BL|apply Ad.CO)|(refine Ad.at 22 ?_;refine Ad.ghost (Aw.Dk 4 3 rfl rfl rfl) ?_;first|apply Ad.BL|apply Ad.CO)|(apply Aa.Dw (l:=([]:List Seg)) (a:=⟨lo,lo+(x.at_:Int) % (hi-lo+1)-1,[⟨(x.rank:Int) % rk.length,sh⟩]⟩);rfl;rfl;rfl;rfl;rfl;rfl;rfl;rfl;(intro _ h;cases h);rfl;rfl;rfl;decide;decide;(first|omega|(simp only [List.length_nil,List.length_cons]<;>omega)))|(apply Aa.Dw (l:=([⟨lo,lo+(x.at_:Int) % (hi-lo+1)-1,[⟨(x.rank:Int) % rk.length,sh⟩]⟩]:List Seg)) (a:=⟨lo+(x.at_:Int) % (hi-lo+1),hi,[⟨(x.rank:Int) % rk.length,sh-12⟩]⟩);rfl;rfl;rfl;rfl;rfl;rfl;rfl;rfl;(intro _ h;cases h);rfl;rfl;rfl;decide;decide;(first|omega|(simp only [List.length_nil,List.length_cons]<;>omega)))|(apply Aa.fn;rfl;rfl;exact hf6;intro _;rfl)|(apply Aa.fn;rfl;rfl;exact q1;intro _;rfl)|(apply Aa.Ap (l:=rk) (i:=x.rank % rk.length);rfl;rfl;rfl;exact hnl;rfl)|refine Zm ?_|apply Ad.BL|apply Ad.CO|apply Ad.region|(apply Aa.Ig;rfl;rfl;rfl;rfl;rfl;omega)|(apply Aa.int;rfl;rfl;rfl)|(apply Aa.build;rfl;rfl;rfl;rfl;rfl)|(apply Aa.buildSlice;rfl;rfl;rfl;decide;rfl;rfl;rfl)|(apply Aa.XE;rfl;rfl;(first|omega|(simp only [List.length_take,List.length_drop,List.length_append,List.length_singleton,List.length_cons,List.length_nil]<;>omega)))|(apply Aa.Gh;rfl;rfl;rfl;rfl;omega)|(apply Aa.Nc;rfl;rfl;rfl;rfl;omega)|(apply Ad.Ac;rfl)|(apply Ad.Au;rfl)|(intro _;try (exfalso;omega)))
    all_goals first|(exfalso;omega)|contradiction|(refine Done.rt rfl rfl ⟨?_,rfl,rfl⟩;rfl)
   ·exact stE _ (by simp) (fU ⟨bh _,by simp only;omega,by simp only;omega,by simp only;omega,bh _⟩ (JI mG) (JI dTw))
   ·refine sm _ (by simp) (fun j hj=>?_)
    have:j=0∨j=1:=by simp at hj;omega
    rcases this with rfl|rfl
    ·show 1<1000000
     decide
    ·show 1<1000000
     decide
end Go.Proofs.YtnjkoebfgcbbdaaGreatDoor
namespace Go.Proofs.YtnjkoebfgcbbdaaGreatDoor
open Go Go.Am Go.Vm
attribute [local irreducible] Aa Ai Ag Ad AP Ak Bf BM Bq Ah Vm.Done BD AB
noncomputable instance (a b:KI):Decidable (a=b):=Classical.propDecidable _
noncomputable instance (a b:Ho):Decidable (a=b):=Classical.propDecidable _
def lnC (i c:Nat):Prop:=oV c∨(i≠0∧(c=95∨(48≤c∧c≤57)))
def b8p (r:Ho):Prop:=(r.EU.length≤30∨r.EU.length=129)∧r.name.length≤40∧r.JJ.length≤40
instance (r:Ho):Decidable (b8p r):=by unfold b8p;infer_instance
attribute [local irreducible] Ci Ba shz AZ XU
noncomputable def c7h (r:Ho) (f p:Int):FV×Int:=if XU r f≠0 then (KW,XU r f) else if p<1∨p>r.EU.length-f then (KW,3) else b1f r (r.first+f) ((r.EU.drop f.toNat).take ((f+p).toNat-f.toNat))
noncomputable def c7g (a b:Ho):FV×Int:=if Ci a≠0 then (KW,Ci a) else if Ci b≠0 then (KW,Ci b) else if ¬ (a.JJ=b.JJ∧a.D5=b.D5) then (KW,14) else if b.first≠a.first+a.EU.length then (KW,6) else b1f a a.first (a.EU++b.EU)
theorem a3a:∀ n,n<3→Dy (gi TB n)
 |0,_=>zV
 |1,_=>by
  refine ⟨by decide,by decide,by decide,fun i h1 h2=>?_⟩;have:i=1∨i=2∨i=3∨i=4:=by simp [TB,gi] at h2;omega
  rcases this with rfl|rfl|rfl|rfl<;>exact .inl (by decide)
 |2,_=>by
  refine ⟨by decide,by decide,by decide,fun i h1 h2=>?_⟩;have:i=1∨i=2∨i=3:=by simp [TB,gi] at h2;omega
  rcases this with rfl|rfl|rfl<;>exact .inl (by decide)
theorem b1b:∀ n,n<16→pOk (gi Rt n) :=by decide
theorem o8 (x:GK):∀ k i,i<k→gi (IY x k) i=((gi x.EU (i % 5):Nat):Int)
 |k+1,i,h=>by
  rcases aq i k with h1|h1
  ·have:gi (IY x (k+1)) i=gi (IY x k) i:=by simp [IY,gi,List.getElem?_append_left (show i<(IY x k).length by rw [F5];omega)]
   rw [this];exact o8 x k i h1
  ·obtain rfl:i=k:=by omega
   simp [IY,gi,List.getElem?_append_right (show (IY x i).length≤i by rw [F5];simp),F5]
theorem b4m (x:GK) (hx:x.Ok) (i:Int) (hi:0≤i):Ci (U3 x i)=0:=by
 obtain ⟨h1,h2,h3,h4,h5⟩:=hx;refine tq ⟨by simp [U3],by simp [U3],(show oV (82:UInt8).toNat by decide),fun j j1 j2=>?_⟩ (a3a _ (ba _ (by decide))) (b1b _ (ba _ (by decide))) ⟨by simp only [U3];omega,by simp only [U3];omega⟩ ⟨by simp only [U3,F5];omega,by simp only [U3,F5];omega⟩ (fun j hj=>?_)
 ·obtain rfl:j=1:=by simp [U3] at j2;omega
  have e:(gi (U3 x i).name 1).toNat=(48+i % 10).toNat:=by
   show (UInt8.ofNat (48+i % 10).toNat).toNat=_;rw [UInt8.toNat_ofNat'];omega
  right;omega
 ·simp only [U3,F5] at hj ⊢
  rw [o8 x _ j hj];have:=h5 (j % 5);unfold kK;omega
theorem b3p {α:Type} [Inhabited α] {l:List α} {P:α→Prop} (h:∀ a∈l,P a) {n:Nat} (hn:n<l.length):P (gi l n):=by
 simp only [gi,List.getElem?_eq_getElem hn,Option.getD_some];grind
theorem b1c (x:GK) (i:Int):c3f (U3 x i):=by
 refine ⟨by simp [U3],?_,by simp only [U3,F5];omega⟩;exact cn (b3p (P:=fun l=>l.length≤5) (by decide) (show x.JJ % 3<TB.length from ba _ (by decide))) (by decide)
theorem a3i (x:GK) (i:Int):(U3 x i).EU.length≤25:=by simp only [U3,F5];omega
def c5q:Ho:=⟨[],[],⟨0,0⟩,0,[]⟩
end Go.Proofs.YtnjkoebfgcbbdaaGreatDoor
namespace Go.Proofs.YtnjkoebfgcbbdaaGreatDoor
open Go Go.Am Go.Vm
attribute [local irreducible] Aa Ai Ag Ad AP Ak Bf BM Bq Ah Vm.Done BD AB
def Zb (x:OPl):Prop:=(1≤x.ranks.length∧x.ranks.length≤3)∧(1≤x.Af.length∧x.Af.length≤3)∧x.links.length≤3∧∀ i,i<x.Af.length→(gi x.Af i).stops.length≤3
noncomputable instance (x:OPl):Decidable (Zb x):=Classical.propDecidable _
theorem a1v (x:OPl) (hx:x.Ok):Ak env 46 [.agg x.enc] (.p (.bool (decide (Zb x)))):=by
 have b1:=hx.nr;have b2:=hx.nd;have b3:=hx.nl;refine Ak.enter (Ae (by decide)) Tryz.func46 rfl (by kernel_rfl) (by simp [Tryz.ntmps46]) ?_;by_cases h0:(1≤x.ranks.length∧x.ranks.length≤3)∧(1≤x.Af.length∧x.Af.length≤3)∧x.links.length≤3
 case neg =>
  rw [decide_eq_false (fun h=>h0 ⟨h.1,h.2.1,h.2.2.1⟩)]
  repeat' (first|refine JA ?_|(apply Ai.guard;rfl;rfl)|(apply Ad.AX;rfl)|(apply Ad.Ac;rfl)|(intro _;try (exfalso;omega)))
  all_goals first|(exfalso;omega)|(refine Done.rt rfl rfl ⟨?_,rfl,rfl⟩;try rfl)
 repeat' (first|refine JA ?_|(apply Ai.guard;rfl;rfl)|(apply Ad.Ac;rfl)|(intro _;try (exfalso;omega)))
 all_goals try (exfalso;omega)
 refine Ad.DK (fun k:Nat=>[(1,.ref 0 0),(3,.p (.int .i64 (k:Int)))]) (fun _=>[(0,.box 54 (x.enc.map .p))]) 1 (fun k=>k≤x.Af.length∧∀ i,i<k→(gi x.Af i).stops.length≤3) (fun k=>x.Af.length-k) 0 (by omega) ⟨by omega,fun i hi=>by omega⟩ ⟨by omega,?_,?_⟩ ?_
 ·exact Dl
 ·exact Eh
 rintro k ⟨hk,hok⟩;by_cases hkl:k<x.Af.length
 ·have hst:=(hx.Af k hkl).stops
  by_cases h1:(gi x.Af k).stops.length≤3
  ·repeat' (first|(apply Aa.Ap;rfl;rfl;rfl;omega;rfl)|refine JA ?_|(apply Ad.Ac;rfl)|(apply Ad.Au;rfl)|(intro _;try (exfalso;omega)))
   all_goals try (exfalso;omega)
   refine Ah.normal ⟨k+1,⟨by omega,fun i hi=>?_⟩,by omega,⟨by omega,?_,?_⟩⟩
   ·rcases aq i k with h|h
    ·exact hok i h
    ·obtain rfl:i=k:=by omega
     exact h1
   ·exact Dl
   ·exact Eh
  ·rw [decide_eq_false (fun h=>h1 (h.2.2.2 k hkl))]
   repeat' (first|(apply Aa.Ap;rfl;rfl;rfl;omega;rfl)|refine JA ?_|(apply Ad.Ac;rfl)|(apply Ad.Au;rfl)|(intro _;try (exfalso;omega)))
   all_goals first|(exfalso;omega)|(refine Done.rt rfl rfl ⟨?_,rfl,rfl⟩;try rfl)
 ·rw [decide_eq_true (show Zb x from ⟨h0.1,h0.2.1,h0.2.2,fun i hi=>hok i (by omega)⟩)]
  repeat' (first|refine JA ?_|(apply Ad.Ac;rfl)|(intro _;try (exfalso;omega)))
  all_goals first|(exfalso;omega)|(refine Done.rt rfl rfl ⟨?_,rfl,rfl⟩;try rfl)
def a5a (rk:List Ho) (lo hi:Int) (x:Pul) (i:Nat) (s:Stp):Prop :=
 Ak env 115 [.lst 113 (cells rk) rk.length,.agg [.int .i64 lo,.int .i64 hi],.agg (Enc.enc x),.int .i64 (i:Int)] (.p (.agg (Enc.enc s)))∧s.name=Oz 83 i∧DV rk lo hi s=0∧oD s∧∃ a,a<6∧s.D5=gi Ro a
noncomputable def Us (rk:List Ho) (lo hi:Int) (x:Pul) (i:Nat):Stp:=Classical.epsilon (h:=⟨default⟩) (a5a rk lo hi x i)
theorem Zn (rk:List Ho) (lo hi:Int) (x:Pul) (i:Nat) (hrk:yP rk) (hc:0≤lo∧lo≤hi∧hi≤127) (hx:x.Ok) (hi9:i≤9):a5a rk lo hi x i (Us rk lo hi x i) :=
 Classical.epsilon_spec (a9i rk lo hi x i hrk hc hx hi9)
def EF (l:List GK):Nat→List Ho
 |0=>[]
 |k+1=>EF l k++[U3 (gi l k) (k:Int)]
noncomputable def Gq (rk:List Ho) (lo hi:Int) (l:List Pul):Nat→List Stp
 |0=>[]
 |k+1=>Gq rk lo hi l k++[Us rk lo hi (gi l k) k]
def EM (b:Brd):Int:=36+(b.low:Int) % 12
def E5 (b:Brd):Int:=EM b+(b.keys:Int) % 9
noncomputable def ny (rk:List Ho) (b:Brd) (k:Nat):lT:=⟨Oz 68 (k:Int),b.WJ,EM b,E5 b,Gq rk (EM b) (E5 b) b.stops b.stops.length⟩
noncomputable def Hg (rk:List Ho) (l:List Brd):Nat→List lT
 |0=>[]
 |k+1=>Hg rk l k++[ny rk (gi l k) k]
def XR (n:Nat) (c:Lnk) (k:Nat):lQ:=⟨Oz 67 (k:Int),(c.VY:Int) % n,(c.tgt:Int) % n,if (c.VY:Int) % n=(c.tgt:Int) % n∧c.shift.tmod 25=0 then 12 else c.shift.tmod 25,c.through⟩
def Fa (n:Nat) (l:List Lnk):Nat→List lQ
 |0=>[]
 |k+1=>Fa n l k++[XR n (gi l k) k]
theorem Jw (l:List GK):∀ k,(EF l k).length=k
 |0=>rfl
 |k+1=>by simp [EF,Jw l k]
theorem Ij (rk:List Ho) (lo hi:Int) (l:List Pul):∀ k,(Gq rk lo hi l k).length=k
 |0=>rfl
 |k+1=>by simp [Gq,Ij rk lo hi l k]
theorem Nb (rk:List Ho) (l:List Brd):∀ k,(Hg rk l k).length=k
 |0=>rfl
 |k+1=>by simp [Hg,Nb rk l k]
theorem Qx (n:Nat) (l:List Lnk):∀ k,(Fa n l k).length=k
 |0=>rfl
 |k+1=>by simp [Fa,Qx n l k]
noncomputable def YF (x:OPl):He:=⟨[79,114,103,97,110],EF x.ranks x.ranks.length,Hg (EF x.ranks x.ranks.length) x.Af x.Af.length,Fa x.Af.length x.links x.links.length⟩
theorem Ie {α:Type} [Inhabited α] {l:List α} {a:α} {i:Nat}:gi (l++[a]) i=if i<l.length then gi l i else if i=l.length then a else default:=by
 by_cases h:i<l.length
 ·rw [if_pos h];simp [gi,List.getElem?_append_left h]
 ·rw [if_neg h]
  by_cases h2:i=l.length
  ·rw [if_pos h2,h2];simp [gi]
  ·rw [if_neg h2];simp [gi,List.getElem?_append_right (show l.length≤i by omega),show ¬ i-l.length=0 by omega]
theorem Vk (l:List GK):∀ k i,i<k→gi (EF l k) i=U3 (gi l i) (i:Int)
 |k+1,i,h=>by
  simp only [EF,Ie,Jw];by_cases h1:i<k
  ·rw [if_pos h1];exact Vk l k i h1
  grind
theorem iJ {l:List GK} (h:∀ i,i<l.length→(gi l i).Ok) (hl:0<l.length∧l.length≤3):yP (EF l l.length):=by
 refine ⟨by rw [Jw];omega,fun i hi=>?_⟩;rw [Jw] at hi;rw [Vk l _ i hi];exact ⟨b4m _ (h i hi) _ (by omega),(gi l i).D5 % 16,ba _ (by decide),rfl⟩
attribute [local irreducible] U3 Us
def c7o (a b c:PV):Vm.HB:=.box 27 [.p (.str (bs [79,114,103,97,110])),a,b,c]
def c6v:Vm.HB:=.box 27 [.p (.str ⟨#[]⟩),.p (.val (.slice none 0 0)),.p (.val (.slice none 0 0)),.p (.val (.slice none 0 0))]
theorem nT (x:OPl) (hx:x.Ok) (hf:Zb x):Ak env 70 [.agg x.enc] (.p (.agg (Enc.enc (YF x)))):=by
 obtain ⟨hf1,hf2,hf3,hf4⟩:=hf;have hR:=iJ hx.ranks (by omega);refine Ak.enter (Ae (by decide)) Tryz.func70 rfl (by kernel_rfl) (by simp [Tryz.ntmps70]) ?_
 repeat' (first|refine go1 ?_|(apply Aa.build;rfl;rfl;rfl;rfl;rfl))
 refine Ad.ghost (Aw.EP 2 1 113 rfl rfl) ?_;refine Ad.DK (fun k:Nat=>[(1,.ref 0 0),(2,.ref 1 0),(3,.ref 2 0),(4,.p (.int .i64 (k:Int)))]) (fun k=>[(3,.vec 113 (cells (EF x.ranks k)) (EF x.ranks k).length true),(2,.box 27 [.p (.str (bs [79,114,103,97,110])),.vec 3 (EF x.ranks k).length 0 (EF x.ranks k).length,.p (.val (.slice none 0 0)),.p (.val (.slice none 0 0))]),(1,.box 27 [.p (.str ⟨#[]⟩),.p (.val (.slice none 0 0)),.p (.val (.slice none 0 0)),.p (.val (.slice none 0 0))]),(0,.box 54 (x.enc.map .p))]) 4 (fun k=>k≤x.ranks.length) (fun k=>x.ranks.length-k) 0 (by omega) (by omega) ⟨by omega,?_,?_⟩ ?_
 ·exact Dl
 ·exact Eh
 intro k hk;have hl:=Jw x.ranks k;have e1:EF x.ranks (k+1)=EF x.ranks k++[U3 (gi x.ranks k) (k:Int)]:=rfl;have e2:(EF x.ranks (k+1)).length=(EF x.ranks k).length+1:=by rw [e1];simp
 by_cases hkl:k<x.ranks.length
 ·have hm:=a0r (gi x.ranks k) (hx.ranks k hkl) k ⟨by omega,by omega⟩
  repeat' (first|(apply Aa.fn;rfl;rfl;exact hm;intro _;rfl)|(apply Aa.Dw (a:=U3 (gi x.ranks k) (k:Int));rfl;rfl;rfl;rfl;rfl;rfl;rfl;rfl;(intro _ h;cases h);rfl;rfl;rfl;decide;decide;(first|omega|(simp only [List.length_take,List.length_drop,List.length_append,List.length_singleton,List.length_cons,List.length_nil]<;>omega)))|(apply Aa.Ap;rfl;rfl;rfl;omega;rfl)|refine FT ?_|(apply Aa.int;rfl;rfl;rfl)|(apply Aa.buildSlice;rfl;rfl;rfl;decide;rfl;rfl;rfl)|(apply Ad.Ac;rfl)|(intro _;try (exfalso;omega)))
  all_goals try (exfalso;omega)
  refine Ah.normal ⟨k+1,by omega,by omega,⟨by omega,?_,?_⟩⟩
  ·exact Dl
  ·rw [e2,e1];exact Eh
 obtain rfl:k=x.ranks.length:=by omega
 clear e1 e2 hl hkl hk;have eO:YF x=⟨[79,114,103,97,110],EF x.ranks x.ranks.length,Hg (EF x.ranks x.ranks.length) x.Af x.Af.length,Fa x.Af.length x.links x.links.length⟩:=rfl;rw [eO];generalize EF x.ranks x.ranks.length=R at *;clear eO
 repeat' (first|(refine Ad.at 6 ?_;refine Ad.ghost (Aw.trans (Aw.Dk 2 1 rfl rfl rfl) (Aw.trans (Aw.EP 2 2 118 rfl rfl) (Aw.EP 2 3 236 rfl rfl))) ?_;first|apply Ad.BL|apply Ad.CO)|refine go0 ?_|apply Ad.BL|(apply Ad.Ac;rfl)|(intro _;try (exfalso;omega)))
 all_goals try (exfalso;omega)
 refine Ad.DK (fun k:Nat=>[(1,.ref 0 0),(2,.ref 1 0),(3,.ref 2 0),(5,.p (.int .i64 (k:Int)))]) (fun k=>[(5,.vec 236 [] 0 true),(4,.vec 118 (cells (Hg R x.Af k)) (Hg R x.Af k).length true),(2,.box 27 [.p (.str (bs [79,114,103,97,110])),.p (.lst 113 (cells R) R.length),.vec 4 (Hg R x.Af k).length 0 (Hg R x.Af k).length,.vec 5 0 0 0]),(1,.box 27 [.p (.str ⟨#[]⟩),.p (.val (.slice none 0 0)),.p (.val (.slice none 0 0)),.p (.val (.slice none 0 0))]),(0,.box 54 (x.enc.map .p))]) 6 (fun k=>k≤x.Af.length) (fun k=>x.Af.length-k) 0 (by omega) (by omega) ⟨by omega,?_,?_⟩ ?_
 ·exact Dl
 ·exact Eh
 intro k hk;have hl:=Nb R x.Af k;have e1:Hg R x.Af (k+1)=Hg R x.Af k++[ny R (gi x.Af k) k]:=rfl;have e2:(Hg R x.Af (k+1)).length=(Hg R x.Af k).length+1:=by rw [e1];simp
 by_cases hkl:k<x.Af.length
 ·obtain ⟨q1,q2,q3,q4⟩:=hx.Af k hkl
  have q5:=hf4 k hkl;have eD:ny R (gi x.Af k) k=⟨Oz 68 (k:Int),(gi x.Af k).WJ,EM (gi x.Af k),E5 (gi x.Af k),Gq R (EM (gi x.Af k)) (E5 (gi x.Af k)) (gi x.Af k).stops (gi x.Af k).stops.length⟩:=rfl;have hlo:0≤EM (gi x.Af k)∧EM (gi x.Af k)≤E5 (gi x.Af k)∧E5 (gi x.Af k)≤127:=by unfold E5 EM;omega
  have hst:(gi x.Af k).stops.length≤3:=q5
  repeat' (first|(apply Aa.Ap;rfl;rfl;rfl;omega;rfl)|refine FT ?_|(apply Aa.Ig;rfl;rfl;rfl;rfl;rfl;omega)|(apply Aa.int;rfl;rfl;rfl)|(apply Aa.build;rfl;rfl;rfl;rfl;rfl)|(apply Aa.buildSlice;rfl;rfl;rfl;decide;rfl;rfl;rfl)|(apply Aa.XE;rfl;rfl;(first|omega|(simp only [List.length_take,List.length_drop,List.length_append,List.length_singleton,List.length_cons,List.length_nil]<;>omega)))|(apply Aa.Gh;rfl;rfl;rfl;rfl;omega)|(apply Aa.Nc;rfl;rfl;rfl;rfl;omega)|(apply Ad.Ac;rfl)|(intro _;try (exfalso;omega)))
  all_goals try (exfalso;omega)
  refine Ad.ghost (Aw.EP 8 4 229 rfl rfl) ?_;refine Ad.DK (fun j:Nat=>[(1,.ref 0 0),(2,.ref 1 0),(3,.ref 2 0),(5,.p (.int .i64 (k:Int))),(6,.ref 6 0),(7,.p (.int .i64 (EM (gi x.Af k)))),(8,.ref 8 0),(9,.p (.int .i64 (j:Int)))]) (fun j=>[(9,.vec 229 (cells (Gq R (EM (gi x.Af k)) (E5 (gi x.Af k)) (gi x.Af k).stops j)) (Gq R (EM (gi x.Af k)) (E5 (gi x.Af k)) (gi x.Af k).stops j).length true),(8,.box 118 [.p (.str (bs (Oz 68 (k:Int)))),.p (.bool (gi x.Af k).WJ),.p (.int .i64 (EM (gi x.Af k))),.p (.int .i64 (E5 (gi x.Af k))),.vec 9 (Gq R (EM (gi x.Af k)) (E5 (gi x.Af k)) (gi x.Af k).stops j).length 0 (Gq R (EM (gi x.Af k)) (E5 (gi x.Af k)) (gi x.Af k).stops j).length]),(6,.box 211 ((Enc.enc (gi x.Af k)).map .p)),(5,.vec 236 [] 0 true),(4,.vec 118 (cells (Hg R x.Af k)) (Hg R x.Af k).length true),(2,.box 27 [.p (.str (bs [79,114,103,97,110])),.p (.lst 113 (cells R) R.length),.vec 4 (Hg R x.Af k).length 0 (Hg R x.Af k).length,.vec 5 0 0 0]),(1,.box 27 [.p (.str ⟨#[]⟩),.p (.val (.slice none 0 0)),.p (.val (.slice none 0 0)),.p (.val (.slice none 0 0))]),(0,.box 54 (x.enc.map .p))]) 10 (fun j=>j≤(gi x.Af k).stops.length) (fun j=>(gi x.Af k).stops.length-j) 0 (by omega) (by omega) ⟨by omega,?_,?_⟩ ?_
  ·exact Dl
  ·exact Eh
  intro j hj;have jl:=Ij R (EM (gi x.Af k)) (E5 (gi x.Af k)) (gi x.Af k).stops j;have j1:Gq R (EM (gi x.Af k)) (E5 (gi x.Af k)) (gi x.Af k).stops (j+1)=Gq R (EM (gi x.Af k)) (E5 (gi x.Af k)) (gi x.Af k).stops j++[Us R (EM (gi x.Af k)) (E5 (gi x.Af k)) (gi (gi x.Af k).stops j) j]:=rfl;have j2:(Gq R (EM (gi x.Af k)) (E5 (gi x.Af k)) (gi x.Af k).stops (j+1)).length=(Gq R (EM (gi x.Af k)) (E5 (gi x.Af k)) (gi x.Af k).stops j).length+1:=by rw [j1];simp
  by_cases hjl:j<(gi x.Af k).stops.length
  ·have hp:=(Zn R (EM (gi x.Af k)) (E5 (gi x.Af k)) (gi (gi x.Af k).stops j) j hR hlo (q4 j hjl) (by omega)).1
   repeat' (first|(apply Aa.fn;rfl;rfl;exact hp;intro _;rfl)|(apply Aa.Dw (a:=Us R (EM (gi x.Af k)) (E5 (gi x.Af k)) (gi (gi x.Af k).stops j) j);rfl;rfl;rfl;rfl;rfl;rfl;rfl;rfl;(intro _ h;cases h);rfl;rfl;rfl;decide;decide;(first|omega|(simp only [List.length_take,List.length_drop,List.length_append,List.length_singleton,List.length_cons,List.length_nil]<;>omega)))|(apply Aa.Ap;rfl;rfl;rfl;omega;rfl)|refine FT ?_|(apply Aa.int;rfl;rfl;rfl)|(apply Aa.buildSlice;rfl;rfl;rfl;decide;rfl;rfl;rfl)|(apply Ad.Ac;rfl)|(intro _;try (exfalso;omega)))
   all_goals try (exfalso;omega)
   refine Ah.normal ⟨j+1,by omega,by omega,⟨by omega,?_,?_⟩⟩
   ·exact Dl
   ·rw [j2,j1];exact Eh
  obtain rfl:j=(gi x.Af k).stops.length:=by omega
  repeat' (first|(refine Ad.atEnd 16 ?_;refine Ad.ghost (Aw.Dk 8 4 rfl rfl rfl) ?_;first|apply Ad.region|apply Ad.Fe)|(apply Aa.Dw (a:=ny R (gi x.Af k) k);rfl;rfl;rfl;rfl;rfl;rfl;rfl;rfl;(intro _ h;cases h);rfl;rfl;rfl;decide;decide;(first|omega|(simp only [List.length_take,List.length_drop,List.length_append,List.length_singleton,List.length_cons,List.length_nil]<;>omega)))|refine Zm ?_|apply Ad.BL|apply Ad.region|(apply Aa.int;rfl;rfl;rfl)|(apply Aa.buildSlice;rfl;rfl;rfl;decide;rfl;rfl;rfl)|(apply Ad.Ac;rfl)|(intro _;try (exfalso;omega)))
  all_goals try (exfalso;omega)
  refine Ah.normal ⟨k+1,by omega,by omega,⟨by omega,?_,?_⟩⟩
  ·exact Dl
  ·rw [e2,e1];exact Eh
 obtain rfl:k=x.Af.length:=by omega
 clear e1 e2 hl hkl hk;have hDl:=Nb R x.Af x.Af.length;generalize Hg R x.Af x.Af.length=D at *
 repeat' (first|(refine Ad.at 17 ?_;refine Ad.ghost (Aw.Dk 2 2 rfl rfl rfl) ?_;first|apply Ad.BL|apply Ad.CO)|refine go0 ?_|apply Ad.BL|(apply Ad.Ac;rfl)|(intro _;try (exfalso;omega)))
 all_goals try (exfalso;omega)
 refine Ad.DK (fun k:Nat=>[(1,.ref 0 0),(2,.ref 1 0),(3,.ref 2 0),(10,.p (.int .i64 (x.Af.length:Int))),(11,.p (.int .i64 (k:Int)))]) (fun k=>[(5,.vec 236 (cells (Fa x.Af.length x.links k)) (Fa x.Af.length x.links k).length true),(2,.box 27 [.p (.str (bs [79,114,103,97,110])),.p (.lst 113 (cells R) R.length),.p (.lst 118 (cells D) D.length),.vec 5 (Fa x.Af.length x.links k).length 0 (Fa x.Af.length x.links k).length]),(1,.box 27 [.p (.str ⟨#[]⟩),.p (.val (.slice none 0 0)),.p (.val (.slice none 0 0)),.p (.val (.slice none 0 0))]),(0,.box 54 (x.enc.map .p))]) 6 (fun k=>k≤x.links.length) (fun k=>x.links.length-k) 0 (by omega) (by omega) ⟨by omega,?_,?_⟩ ?_
 ·exact Dl
 ·exact Eh
 intro k hk;have hl:=Qx x.Af.length x.links k;by_cases hkl:k<x.links.length
 ·obtain ⟨q1,q2,q3⟩:=hx.links k hkl
  have hne:((gi x.links k).VY:Int) % x.Af.length≥0:=bx _ (by omega);by_cases c1:((gi x.links k).VY:Int) % x.Af.length=((gi x.links k).tgt:Int) % x.Af.length
  ·by_cases c2:(gi x.links k).shift.tmod 25=0
   ·have e1:Fa x.Af.length x.links (k+1)=Fa x.Af.length x.links k++[(⟨Oz 67 (k:Int),((gi x.links k).VY:Int) % x.Af.length,((gi x.links k).tgt:Int) % x.Af.length,12,(gi x.links k).through⟩:lQ)]:=by
     show Fa x.Af.length x.links k++[XR x.Af.length (gi x.links k) k]=_;unfold XR;rw [if_pos ⟨c1,c2⟩]
    have e2:(Fa x.Af.length x.links (k+1)).length=(Fa x.Af.length x.links k).length+1:=by rw [e1];simp
    repeat' (first|(apply Aa.Dw (a:=(⟨Oz 67 (k:Int),((gi x.links k).VY:Int) % x.Af.length,((gi x.links k).tgt:Int) % x.Af.length,12,(gi x.links k).through⟩:lQ));rfl;rfl;rfl;rfl;rfl;rfl;rfl;rfl;(intro _ h;cases h);rfl;rfl;rfl;decide;decide;(first|omega|(simp only [List.length_take,List.length_drop,List.length_append,List.length_singleton,List.length_cons,List.length_nil]<;>omega)))|(apply Aa.Ap;rfl;rfl;rfl;omega;rfl)|refine FT ?_|(apply Ai.guard;rfl;rfl)|(apply Aa.Ig;rfl;rfl;rfl;rfl;rfl;omega)|(apply Aa.int;rfl;rfl;rfl)|(apply Aa.build;rfl;rfl;rfl;rfl;rfl)|(apply Aa.buildSlice;rfl;rfl;rfl;decide;rfl;rfl;rfl)|(apply Aa.XE;rfl;rfl;(first|omega|(simp only [List.length_take,List.length_drop,List.length_append,List.length_singleton,List.length_cons,List.length_nil]<;>omega)))|(apply Aa.Gh;rfl;rfl;rfl;rfl;omega)|(apply Aa.Nc;rfl;rfl;rfl;rfl;omega)|(apply Ad.Ac;rfl)|(intro _;try (exfalso;omega)))
    all_goals try (exfalso;omega)
    refine Ah.normal ⟨k+1,by omega,by omega,⟨by omega,?_,?_⟩⟩
    ·exact Dl
    ·rw [e2,e1];exact Eh
   ·have e1:Fa x.Af.length x.links (k+1)=Fa x.Af.length x.links k++[(⟨Oz 67 (k:Int),((gi x.links k).VY:Int) % x.Af.length,((gi x.links k).tgt:Int) % x.Af.length,(gi x.links k).shift.tmod 25,(gi x.links k).through⟩:lQ)]:=by
     show Fa x.Af.length x.links k++[XR x.Af.length (gi x.links k) k]=_;unfold XR;rw [if_neg (fun h=>c2 h.2)]
    have e2:(Fa x.Af.length x.links (k+1)).length=(Fa x.Af.length x.links k).length+1:=by rw [e1];simp
    repeat' (first|(apply Aa.Dw (a:=(⟨Oz 67 (k:Int),((gi x.links k).VY:Int) % x.Af.length,((gi x.links k).tgt:Int) % x.Af.length,(gi x.links k).shift.tmod 25,(gi x.links k).through⟩:lQ));rfl;rfl;rfl;rfl;rfl;rfl;rfl;rfl;(intro _ h;cases h);rfl;rfl;rfl;decide;decide;(first|omega|(simp only [List.length_take,List.length_drop,List.length_append,List.length_singleton,List.length_cons,List.length_nil]<;>omega)))|(apply Aa.Ap;rfl;rfl;rfl;omega;rfl)|refine FT ?_|(apply Ai.guard;rfl;rfl)|(apply Aa.Ig;rfl;rfl;rfl;rfl;rfl;omega)|(apply Aa.int;rfl;rfl;rfl)|(apply Aa.build;rfl;rfl;rfl;rfl;rfl)|(apply Aa.buildSlice;rfl;rfl;rfl;decide;rfl;rfl;rfl)|(apply Aa.XE;rfl;rfl;(first|omega|(simp only [List.length_take,List.length_drop,List.length_append,List.length_singleton,List.length_cons,List.length_nil]<;>omega)))|(apply Aa.Gh;rfl;rfl;rfl;rfl;omega)|(apply Aa.Nc;rfl;rfl;rfl;rfl;omega)|(apply Ad.Ac;rfl)|(intro _;try (exfalso;omega)))
    all_goals try (exfalso;omega)
    refine Ah.normal ⟨k+1,by omega,by omega,⟨by omega,?_,?_⟩⟩
    ·exact Dl
    ·rw [e2,e1];exact Eh
  ·have e1:Fa x.Af.length x.links (k+1)=Fa x.Af.length x.links k++[(⟨Oz 67 (k:Int),((gi x.links k).VY:Int) % x.Af.length,((gi x.links k).tgt:Int) % x.Af.length,(gi x.links k).shift.tmod 25,(gi x.links k).through⟩:lQ)]:=by
    show Fa x.Af.length x.links k++[XR x.Af.length (gi x.links k) k]=_;unfold XR;rw [if_neg (fun h=>c1 h.1)]
   have e2:(Fa x.Af.length x.links (k+1)).length=(Fa x.Af.length x.links k).length+1:=by rw [e1];simp
   repeat' (first|(apply Aa.Dw (a:=(⟨Oz 67 (k:Int),((gi x.links k).VY:Int) % x.Af.length,((gi x.links k).tgt:Int) % x.Af.length,(gi x.links k).shift.tmod 25,(gi x.links k).through⟩:lQ));rfl;rfl;rfl;rfl;rfl;rfl;rfl;rfl;(intro _ h;cases h);rfl;rfl;rfl;decide;decide;(first|omega|(simp only [List.length_take,List.length_drop,List.length_append,List.length_singleton,List.length_cons,List.length_nil]<;>omega)))|(apply Aa.Ap;rfl;rfl;rfl;omega;rfl)|refine FT ?_|(apply Ai.guard;rfl;rfl)|(apply Aa.Ig;rfl;rfl;rfl;rfl;rfl;omega)|(apply Aa.int;rfl;rfl;rfl)|(apply Aa.build;rfl;rfl;rfl;rfl;rfl)|(apply Aa.buildSlice;rfl;rfl;rfl;decide;rfl;rfl;rfl)|(apply Aa.XE;rfl;rfl;(first|omega|(simp only [List.length_take,List.length_drop,List.length_append,List.length_singleton,List.length_cons,List.length_nil]<;>omega)))|(apply Aa.Gh;rfl;rfl;rfl;rfl;omega)|(apply Aa.Nc;rfl;rfl;rfl;rfl;omega)|(apply Ad.Aj;rfl)|(apply Ad.Ac;rfl)|(intro _;try (exfalso;omega)))
   all_goals try (exfalso;omega)
   refine Ah.normal ⟨k+1,by omega,by omega,⟨by omega,?_,?_⟩⟩
   ·exact Dl
   ·rw [e2,e1];exact Eh
 obtain rfl:k=x.links.length:=by omega
 repeat' (first|(refine Ad.at 26 ?_;refine Ad.ghost (Aw.Dk 2 3 rfl rfl rfl) ?_;first|apply Ad.BL|apply Ad.CO)|refine go0 ?_|apply Ad.BL|(apply Ad.Ac;rfl)|(intro _;try (exfalso;omega)))
 all_goals first|(exfalso;omega)|(refine Done.rt rfl rfl ⟨?_,rfl,rfl⟩;rfl)
attribute [local irreducible] Ci Ba AZ
theorem lZ (rk:List Ho) (l:List Brd):∀ k i,i<k→gi (Hg rk l k) i=ny rk (gi l i) i
 |k+1,i,h=>by
  simp only [Hg,Ie,Nb];by_cases h1:i<k
  ·rw [if_pos h1];exact lZ rk l k i h1
  grind
theorem iy (rk:List Ho) (lo hi:Int) (l:List Pul):∀ k i,i<k→gi (Gq rk lo hi l k) i=Us rk lo hi (gi l i) i
 |k+1,i,h=>by
  simp only [Gq,Ie,Ij];by_cases h1:i<k
  ·rw [if_pos h1];exact iy rk lo hi l k i h1
  grind
theorem qm (n:Nat) (l:List Lnk):∀ k i,i<k→gi (Fa n l k) i=XR n (gi l i) i
 |k+1,i,h=>by
  simp only [Fa,Ie,Qx];by_cases h1:i<k
  ·rw [if_pos h1];exact qm n l k i h1
  grind
theorem a7l (b:Brd):0≤EM b∧EM b≤E5 b∧E5 b≤127:=by unfold E5 EM;omega
structure uV (o:He):Prop where
 sm:UF o
 ranks:1≤o.ranks.length∧o.ranks.length≤3
 Af:1≤o.Af.length∧o.Af.length≤3
 IK:o.IK.length≤3
 stops:∀ i,i<o.Af.length→(gi o.Af i).stops.length≤3
 rk:yP o.ranks
 dv:∀ i,i<o.Af.length→0≤(gi o.Af i).lo∧(gi o.Af i).lo≤(gi o.Af i).hi∧(gi o.Af i).hi≤127
 dn:∀ i,i<o.Af.length→(gi o.Af i).name=Oz 68 i
 st:∀ i,i<o.Af.length→∀ j,j<(gi o.Af i).stops.length→DV o.ranks (gi o.Af i).lo (gi o.Af i).hi (gi (gi o.Af i).stops j)=0∧(gi (gi o.Af i).stops j).name=Oz 83 j∧∃ a,a<6∧(gi (gi o.Af i).stops j).D5=gi Ro a
 cp:∀ i,i<o.IK.length→a3p o.Af.length (gi o.IK i)∧(gi o.IK i).name=Oz 67 i
 rn:∀ i,i<o.ranks.length→(gi o.ranks i).name=Oz 82 i
 nm:o.name=[79,114,103,97,110]
theorem b1u (n:Nat) (c:Lnk) (k:Nat) (hn:1≤n) (hc:c.Ok) (hk:k<10):a3p n (XR n c k):=by
 obtain ⟨c1,c2,c3⟩:=hc;have m1:=bx (c.VY:Int) (show (n:Int)≠0 by omega);have m2:=bv (c.VY:Int) (show 0<(n:Int) by omega);have m3:=bx (c.tgt:Int) (show (n:Int)≠0 by omega);have m4:=bv (c.tgt:Int) (show 0<(n:Int) by omega);refine ⟨sJ (by decide) hk,⟨m1,m2⟩,⟨m3,m4⟩,?_,?_⟩
 ·have e:(XR n c k).shift=if (c.VY:Int) % n=(c.tgt:Int) % n∧c.shift.tmod 25=0 then 12 else c.shift.tmod 25:=rfl
  grind
 ·show ¬ ((c.VY:Int) % n=(c.tgt:Int) % n∧(if (c.VY:Int) % n=(c.tgt:Int) % n∧c.shift.tmod 25=0 then (12:Int) else c.shift.tmod 25)=0)
  omega
theorem b4v (x:GK) (i:Int):dU (U3 x i):=by
 have h:=b1c x i;have w:=a3i x i;unfold U3 at h w ⊢;refine ⟨by simp,?_,by omega⟩;have:(gi TB (x.JJ % 3)).length≤5:=b3p (P:=fun l:List UInt8=>l.length≤5) (by decide) (show x.JJ % 3<TB.length from ba _ (by decide));grind
theorem a5c (x:GK) (i:Nat) (hi:i<10):(U3 x i).name=Oz 82 i:=by
 unfold U3 Oz;grind
theorem pY (x:OPl) (hx:x.Ok) (hf:Zb x):uV (YF x):=by
 obtain ⟨hf1,hf2,hf3,hf4⟩:=hf;have hR:=iJ hx.ranks (by omega);have e1:(YF x).ranks=EF x.ranks x.ranks.length:=rfl;have e2:(YF x).Af=Hg (EF x.ranks x.ranks.length) x.Af x.Af.length:=rfl;have e3:(YF x).IK=Fa x.Af.length x.links x.links.length:=rfl;have e4:(YF x).name=[79,114,103,97,110]:=rfl;have rn:∀ i,i<x.ranks.length→gi (EF x.ranks x.ranks.length) i=U3 (gi x.ranks i) (i:Int):=Vk _ _;generalize hRR:EF x.ranks x.ranks.length=R at *;have hRl:R.length=x.ranks.length:=by rw [← hRR,Jw]
 have dl:=Nb R x.Af x.Af.length;have cl:=Qx x.Af.length x.links x.links.length;have dg:∀ i,i<x.Af.length→gi (Hg R x.Af x.Af.length) i=ny R (gi x.Af i) i:=lZ _ _ _;have cg:∀ i,i<x.links.length→gi (Fa x.Af.length x.links x.links.length) i=XR x.Af.length (gi x.links i) i:=qm _ _ _;have ds:∀ b k,(ny R b k).stops=Gq R (EM b) (E5 b) b.stops b.stops.length:=fun _ _=>rfl
 have sp:∀ i,i<x.Af.length→∀ j,j<(gi x.Af i).stops.length→gi (Gq R (EM (gi x.Af i)) (E5 (gi x.Af i)) (gi x.Af i).stops (gi x.Af i).stops.length) j=Us R (EM (gi x.Af i)) (E5 (gi x.Af i)) (gi (gi x.Af i).stops j) j∧a5a R (EM (gi x.Af i)) (E5 (gi x.Af i)) (gi (gi x.Af i).stops j) j (Us R (EM (gi x.Af i)) (E5 (gi x.Af i)) (gi (gi x.Af i).stops j) j):=fun i hi j hj =>
  ⟨iy _ _ _ _ _ _ hj,Zn R _ _ _ j hR (a7l _) ((hx.Af i hi).all j hj) (by have:=hf4 i hi;omega)⟩
 refine ⟨⟨by rw [e4];simp,by rw [e1];omega,by rw [e2];omega,by rw [e3];omega,fun i hi=>?_,fun i hi=>?_,fun i hi=>?_⟩,by rw [e1];omega,by rw [e2];omega,by rw [e3];omega,fun i hi=>?_,by rw [e1];exact hR,fun i hi=>?_,fun i hi=>?_,fun i hi j hj=>?_,fun i hi=>?_,fun i hi=>?_,e4⟩
 ·rw [e1] at hi ⊢;rw [rn i (by omega)];exact b4v _ _
 ·rw [e2] at hi ⊢;rw [dg i (by omega)]
  refine ⟨by simp [ny,Oz],by rw [ds,Ij];have:=hf4 i (by omega);omega,fun j hj=>?_⟩;rw [ds,Ij] at hj;rw [ds,(sp i (by omega) j hj).1];exact (sp i (by omega) j hj).2.2.2.2.1
 ·rw [e3] at hi ⊢;rw [cg i (by omega)];simp [XR,Oz]
 ·rw [e2] at hi ⊢;rw [dg i (by omega),ds,Ij];exact hf4 i (by omega)
 ·rw [e2] at hi ⊢;rw [dg i (by omega)];exact a7l _
 ·rw [e2] at hi ⊢;rw [dg i (by omega)];rfl
 ·rw [e2] at hi hj ⊢;rw [dg i (by omega),ds,Ij] at hj;rw [e1,dg i (by omega),ds,(sp i (by omega) j hj).1]
  exact ⟨(sp i (by omega) j hj).2.2.2.1,(sp i (by omega) j hj).2.2.1,(sp i (by omega) j hj).2.2.2.2.2⟩
 ·rw [e3] at hi ⊢;rw [e2,dl,cg i (by omega)]
  exact ⟨b1u _ _ _ (by omega) (hx.links i (by omega)) (by omega),rfl⟩
 ·rw [e1] at hi ⊢;rw [rn i (by omega)];exact a5c _ _ (by omega)
theorem b6l:Dy [79,114,103,97,110]:=by
 refine ⟨by decide,by decide,by decide,fun i h1 h2=>?_⟩;have:i=1∨i=2∨i=3∨i=4:=by simp at h2;omega
 rcases this with rfl|rfl|rfl|rfl<;>exact .inl (by decide)
theorem uV.ok {o:He} (h:uV o):Vs o=0:=by
 have r1:=h.ranks;have d1:=h.Af;have c1:=h.IK;unfold Vs;rw [if_neg (fun h'=>h' (h.nm▸b6l)),if_neg (by omega)];have hr:P6 o.ranks 0=0:=VI (fun i hi=>⟨(h.rk.ok i hi).1,iP (c:=82) (by omega) h.rn hi⟩) _ 0 rfl;rw [if_neg (fun h'=>h' hr),if_neg (by omega),if_neg (by omega)];have hd:GI o.ranks o.Af 0=0:=Tf (fun i hi=>by
  have s1:=h.stops i hi;refine ⟨by rw [h.dn i hi];exact sJ (by decide) (by omega),iP (c:=68) (by omega) h.dn hi,?_⟩;unfold DN;rw [Vx (h.dv i hi),if_neg (fun h=>h rfl),if_neg (by omega)];exact Tv (fun j hj=>⟨(h.st i hi j hj).1,iP (c:=83) (by omega) (fun a ha=>(h.st i hi a ha).2.1) hj⟩) _ 0 rfl) _ 0 rfl
 rw [if_neg (fun h'=>h' hd)];unfold Eo;rw [if_neg (by grind)];have hc:Tn (o.Af.map fun d=>⟨d.lo,d.hi⟩) 0=0:=VD (fun i hi=>by
  rw [bd] at hi;have e:gi (o.Af.map fun d=>(⟨d.lo,d.hi⟩:lM)) i=⟨(gi o.Af i).lo,(gi o.Af i).hi⟩:=by simp [gi,List.getElem?_eq_getElem hi]
  rw [e];exact Vx (h.dv i hi)) _ 0 rfl
 rw [if_neg (fun h'=>h' hc),bd];exact S9 (fun i hi=>⟨(h.cp i hi).1,iP (c:=67) (by omega) (fun a ha=>(h.cp a ha).2) hi⟩) _ 0 rfl
end Go.Proofs.YtnjkoebfgcbbdaaGreatDoor
namespace Go.Proofs.YtnjkoebfgcbbdaaGreatDoor
open Go Go.Am Go.Vm
attribute [local irreducible] Aa Ai Ag Ad AP Ak Bf BM Bq Ah Vm.Done BD AB
attribute [local irreducible] Ci Ba
theorem aI (lo hi:Int):Ak env 110 [.agg [.int .i64 lo,.int .i64 hi]] (.p (.int .i64 (XM lo hi))):=by
 unfold XM;refine Ak.enter (Ae (by decide)) Tryz.func110 rfl (by kernel_rfl) (by simp) ?_
 repeat' (first|refine JA ?_|(apply Ai.guard;rfl;rfl)|(apply Ad.cond_true;rfl)|(apply Ad.Au;rfl)|(intro _))
 all_goals first
  |(rw [if_pos (by omega)];(refine Done.rt rfl rfl ⟨?_,rfl,rfl⟩;try rfl);done)
  |(rw [if_neg (by omega),if_pos (by omega)];(refine Done.rt rfl rfl ⟨?_,rfl,rfl⟩;try rfl);done)
  |(rw [if_neg (by omega),if_neg (by omega)];(refine Done.rt rfl rfl ⟨?_,rfl,rfl⟩;try rfl);done)
theorem nN:ZX Tryz.prog 270=true:=by kernel_rfl
theorem b6n (x y:rV):Vm.kF Tryz.prog 270 (Enc.enc x) (Enc.enc y)=some (decide (x=y)):=by
 show some (decide (x.rank=y.rank)&&(decide (x.shift=y.shift)&&true))=_;by_cases h:x=y
 ·grind
 ·have:¬ (x.rank=y.rank∧x.shift=y.shift):=fun h'=>h (by cases x;simp_all)
  by_cases h1:x.rank=y.rank<;>simp_all
theorem YJ {α:Type} [Inhabited α] {a:α} {l:List α}:a∈l↔∃ i,i<l.length∧gi l i=a:=by
 constructor
 ·intro h
  obtain ⟨i,hi,e⟩:=dr h;exact ⟨i,hi,by simp [gi,List.getElem?_eq_getElem hi,e]⟩
 ·rintro ⟨i,hi,e⟩
  rw [← e];simp only [gi,List.getElem?_eq_getElem hi,Option.getD_some];simp
theorem XZ {α:Type} [Inhabited α] {l:List α} {i k:Nat} (h:i<k):gi (l.take k) i=gi l i:=by simp [gi,List.getElem?_take,h]
theorem Em {α:Type} [Inhabited α] {l:List α} {k:Nat} (hk:k<l.length):l.take (k+1)=l.take k++[gi l k]:=by
 simp [gi,List.getElem?_eq_getElem hk]
theorem b1o {L:Vm.Frame} {H:Vm.Heap} {nx:Nat} {Q:PV→Vm.Heap→Nat→Prop} {dst:Option Tmp} {ty:TypeId} {pos:String} {af:Array Edge} {gd:Option (Nat×Bool)} {fo:Operand} {args:Array Operand} {aT:Array TypeId} {fs cs xs:List PV} {c:Code}
 (hf:AU env.Γ L fo=some (.clo 206 fs cs)) (ha:evs env.Γ L args.toList=some xs) (hb:Tryz.f206.body=some c) (hn:(fs++xs++cs).length≤Tryz.f206.ntmps)
 (h:Ad env nx c (Ce 0 (fs++xs++cs)) H nx (AB env.P Tryz.f206.results.toList Q)):Aa env true ⟨dst,.call { callee:=.value fo,args:=args,argTypes:=aT },ty,pos,af,gd⟩ L H nx Q:=by
 have h0:(match Tryz.f206.body with|some c=>II env.G Tryz.f206 c|none=>false)=true:=by kernel_rfl
 rw [hb] at h0;exact Aa.inline rfl hf ha (Ae (by decide)) Tryz.func206 hb h0 hn h
theorem bQ (l:List rV) (d:rV) (hl:l.length<1000000):Ak env 199 [.lst 270 (cells l) l.length,.agg (Enc.enc d)] (.p (.bool (decide (d∈l)))):=by
 refine Ak.enter (Ae (by decide)) Tryz.func199 rfl (by kernel_rfl) (by simp) ?_
 repeat' (first|(apply b1o;rfl;rfl;rfl;exact le_dec rfl)|refine go1 ?_|fail)
 refine Ad.DK (fun k:Nat=>[(0,lst 270 l),(3,.ref 1 0),(7,.p (.int .i64 (l.length:Int))),(8,.p (.int .i64 (k:Int)))]) (fun _=>[(1,.box 270 ((Enc.enc d).map .p)),(0,.box 270 ((Enc.enc d).map .p))]) 2 (fun k=>k≤l.length∧∀ i,i<k→d≠gi l i) (fun k=>l.length-k) 0 (by omega) ⟨by omega,fun i hi=>by omega⟩ ⟨by omega,?_,?_⟩ ?_
 ·exact Dl
 ·exact Eh
 rintro k ⟨hk,hok⟩;have he:=b6n d (gi l k);by_cases hd:d=gi l k
 ·rw [decide_eq_true hd] at he
  repeat' (first|(apply Aa.b3q;rfl;rfl;exact nN;exact he)|(apply Aa.Ap;rfl;rfl;rfl;omega;rfl)|refine FT ?_|(apply AB.ret;rfl)|(apply Aa.int;rfl;rfl;rfl)|(apply Ad.Ac;rfl)|(apply Ad.cond_true;rfl)|(intro _;try (exfalso;omega)))
  ·rename_i a1
   rw [decide_eq_true (YJ.2 ⟨k,by omega,hd.symm⟩)];refine Done.rt rfl rfl ⟨?_,rfl,rfl⟩;rfl
  ·rename_i a1
   rw [decide_eq_false (fun h=>by obtain ⟨i,h1,h2⟩:=YJ.1 h;grind)]
   (refine Done.rt rfl rfl ⟨?_,rfl,rfl⟩;try rfl)
 ·rw [decide_eq_false hd] at he
  repeat' (first|(apply Aa.b3q;rfl;rfl;exact nN;exact he)|(apply Aa.Ap;rfl;rfl;rfl;omega;rfl)|refine FT ?_|(apply AB.ret;rfl)|(apply Aa.int;rfl;rfl;rfl)|(apply Ad.Ac;rfl)|(apply Ad.cond_false;rfl)|(intro _;try (exfalso;omega)))
  ·rename_i a1
   refine Ah.normal ⟨k+1,⟨by omega,fun i hi=>?_⟩,by omega,⟨by omega,?_,?_⟩⟩
   ·grind
   ·exact Dl
   ·exact Eh
  ·rename_i a1
   rw [decide_eq_false (fun h=>by obtain ⟨i,h1,h2⟩:=YJ.1 h;exact hok i (by omega) h2.symm)]
   (refine Done.rt rfl rfl ⟨?_,rfl,rfl⟩;try rfl)
def a0i (rk:List Ho) (lo hi:Int):List FV:=[.lst 113 (cells rk) rk.length,.int .i64 lo,.int .i64 hi]
theorem uF (rk:List Ho) (lo hi:Int) (l:List rV) (hl:l.length<1000000) (hr:rk.length<1000000):Ak env 182 [.agg (a0i rk lo hi),.lst 270 (cells l) l.length] (.p (.int .i64 (Y4 rk.length l))):=by
 unfold Y4;refine Ak.enter (Ae (by decide)) Tryz.func182 rfl (by kernel_rfl) (by simp [Tryz.ntmps182]) ?_
 repeat' (first|refine JA ?_|(apply Ad.Ac;rfl)|(intro _;try (exfalso;omega)))
 ·rw [if_pos (by omega)];(refine Done.rt rfl rfl ⟨?_,rfl,rfl⟩;try rfl)
 rw [if_neg (by omega)];refine Ad.DK (fun k:Nat=>[(1,lst 270 l),(2,.ref 0 0),(10,lst 270 l),(11,.p (.int .i64 (l.length:Int))),(12,.p (.int .i64 (k:Int)))]) (fun _=>[(0,.box 277 ((a0i rk lo hi).map .p))]) 1 (fun k=>k≤l.length∧RG rk.length l k=RG rk.length l 0) (fun k=>l.length-k) 0 (by omega) ⟨by omega,rfl⟩ ⟨by omega,?_,?_⟩ ?_
 ·exact Dl
 ·exact Eh
 rintro k ⟨hk,hE⟩;have hc:=bQ (l.take k) (gi l k) (by rw [aw];omega);rw [aw,cH (by omega)] at hc;rw [← hE];by_cases hkl:k<l.length
 ·rw [RG,if_pos hkl]
  generalize hg:decide (gi l k∈l.take k)=g at *;cases g;all_goals
   repeat' (first|(apply Aa.fn;rfl;rfl;exact hc;intro _;rfl)|(apply Aa.Ap;rfl;rfl;rfl;omega;rfl)|refine FT ?_|apply Ad.MB|(apply Ai.guard;rfl;rfl)|(apply Aa.sliceTo;rfl;rfl;rfl;rfl;rfl;rfl;omega)|(apply Aa.int;rfl;rfl;rfl)|(apply Ad.Ac;rfl)|(apply Ad.cond_true;rfl)|(apply Ad.cond_false;rfl)|(apply Ad.Au;rfl)|(intro _;try (exfalso;omega)))
  all_goals try (exfalso;omega)
  all_goals first
   |(rw [if_pos (by omega)];(refine Done.rt rfl rfl ⟨?_,rfl,rfl⟩;try rfl);done)
   |(rw [if_neg (by omega),if_pos (by omega)];(refine Done.rt rfl rfl ⟨?_,rfl,rfl⟩;try rfl);done)
   |(rw [if_neg (by omega),if_neg (by omega),if_pos (of_decide_eq_true hg)];(refine Done.rt rfl rfl ⟨?_,rfl,rfl⟩;try rfl);done)
   |(rw [if_neg (by omega),if_neg (by omega),if_neg (of_decide_eq_false hg)]
     refine Ah.normal ⟨k+1,⟨by omega,?_⟩,by omega,⟨by omega,?_,?_⟩⟩
     ·first|rfl|(refine ee ?_ hE;symm;(conv=>lhs;rw [RG]);rw [if_pos hkl,if_neg (by omega),if_neg (by omega),if_neg (of_decide_eq_false hg)])
     ·exact Dl
     ·exact Eh)
 ·rw [RG,if_neg hkl]
  repeat' (first|refine go2 ?_|(apply Ad.Ac;rfl)|(intro _;try (exfalso;omega)))
  all_goals first|(exfalso;omega)|(refine Done.rt rfl rfl ⟨?_,rfl,rfl⟩;try rfl)
theorem wI (rk:List Ho) (lo hi:Int) (hr:rk.length<1000000) (hs:∀ i,i<rk.length→dU (gi rk i)):Ak env 181 [.agg (a0i rk lo hi)] (.p (.int .i64 (ql rk lo hi))):=by
 have hcm:=aI lo hi;unfold ql;refine Ak.enter (Ae (by decide)) Tryz.func181 rfl (by kernel_rfl) (by simp) ?_
 repeat' (first|refine JA ?_|(apply Ad.Ac;rfl)|(intro _;try (exfalso;omega)))
 ·rw [if_pos (by omega)];(refine Done.rt rfl rfl ⟨?_,rfl,rfl⟩;try rfl)
 rw [if_neg (by omega)];refine Ad.DK (fun k:Nat=>[(1,.ref 0 0),(11,lst 113 rk),(12,.p (.int .i64 (rk.length:Int))),(13,.p (.int .i64 (k:Int)))]) (fun _=>[(0,.box 277 ((a0i rk lo hi).map .p))]) 1 (fun k=>k≤rk.length∧cu rk k=cu rk 0) (fun k=>rk.length-k) 0 (by omega) ⟨by omega,rfl⟩ ⟨by omega,?_,?_⟩ ?_
 ·exact Dl
 ·exact Eh
 rintro k ⟨hk,hE⟩;rw [← hE];by_cases hkl:k<rk.length
 ·have hsm:=(hs k hkl).len
  have hc:=Ws (gi rk k) hsm.1 hsm.2.1 hsm.2.2;rw [cu,if_pos hkl];by_cases h0:Ci (gi rk k)=0
  ·rw [h0] at hc ⊢
   rw [if_neg (by decide)]
   repeat' (first|(apply Aa.fn;rfl;rfl;exact hc;intro _;rfl)|(apply Aa.Ap;rfl;rfl;rfl;omega;rfl)|refine go1 ?_|(apply Aa.int;rfl;rfl;rfl)|(apply Ad.Ac;rfl)|(apply Ad.cond_false;rfl)|(intro _;try (exfalso;omega)))
   all_goals try (exfalso;omega)
   refine Ah.normal ⟨k+1,⟨by omega,?_⟩,by omega,⟨by omega,?_,?_⟩⟩
   ·rfl
   ·exact Dl
   ·exact Eh
  ·rw [if_pos h0,if_pos h0]
   repeat' (first|(apply Aa.fn;rfl;rfl;exact hc;intro _;rfl)|(apply Aa.Ap;rfl;rfl;rfl;omega;rfl)|refine go1 ?_|(apply Aa.int;rfl;rfl;rfl)|(apply Ad.Ac;rfl)|(apply Ad.Au;rfl)|(intro _;try (exfalso;omega)))
   all_goals first|(exfalso;omega)|(refine Done.rt rfl rfl ⟨?_,rfl,rfl⟩;try rfl)
 ·rw [cu,if_neg hkl,if_neg (by decide)]
  repeat' (first|(apply Aa.fn;rfl;rfl;exact hcm;intro _;rfl)|refine FT ?_|(apply Aa.int;rfl;rfl;rfl)|(apply Ad.Ac;rfl)|(intro _;try (exfalso;omega)))
  all_goals first|(exfalso;omega)|(refine Done.rt rfl rfl ⟨?_,rfl,rfl⟩;try rfl)
theorem a2i (rk:List Ho) (lo hi:Int) (s:Stp) (hr:rk.length<1000000) (hs:∀ i,i<rk.length→dU (gi rk i)) (hS:oD s):Ak env 157 [.agg (a0i rk lo hi),.agg (Enc.enc s)] (.p (.int .i64 (DV rk lo hi s))):=by
 obtain ⟨q1,q2,q3⟩:=hS;have hp:=wI rk lo hi hr hs;have hn:=Iu s.name (by omega);have hf:=LK s.D5;unfold DV b6q;refine Ak.enter (Ae (by decide)) Tryz.func157 rfl (by kernel_rfl) (by simp [Tryz.ntmps157]) ?_;by_cases h0:ql rk lo hi=0
 case neg =>
  rw [if_pos h0]
  repeat' (first|(apply Aa.fn;rfl;rfl;exact hp;intro _;rfl)|refine go1 ?_|(apply Aa.int;rfl;rfl;rfl)|(apply Ad.Ac;rfl)|(intro _;try (exfalso;omega)))
  all_goals first|(exfalso;omega)|(refine Done.rt rfl rfl ⟨?_,rfl,rfl⟩;try rfl)
 rw [h0] at hp ⊢;rw [if_neg (by decide)];by_cases h1:Dy s.name
 case neg =>
  rw [if_pos h1];rw [decide_eq_false h1] at hn
  repeat' (first|(apply Aa.fn;rfl;rfl;exact hp;intro _;rfl)|(apply Aa.fn;rfl;rfl;exact hn;intro _;rfl)|refine go1 ?_|(apply Aa.int;rfl;rfl;rfl)|(apply Ad.AX;rfl)|(apply Ad.Aj;rfl))
  all_goals first|contradiction|(exfalso;omega)|(refine Done.rt rfl rfl ⟨?_,rfl,rfl⟩;try rfl)
 rw [if_neg (fun h=>h h1)];rw [decide_eq_true h1] at hn;by_cases h2:Rh s.D5=0
 case neg =>
  rw [if_pos h2]
  repeat' (first|(apply Aa.fn;rfl;rfl;exact hp;intro _;rfl)|(apply Aa.fn;rfl;rfl;exact hn;intro _;rfl)|(apply Aa.fn;rfl;rfl;exact hf;intro _;rfl)|refine go1 ?_|(apply Aa.int;rfl;rfl;rfl)|(apply Ad.Aj;rfl)|(apply Ad.Ac;rfl)|(intro _;try (exfalso;omega)))
  all_goals first|contradiction|(exfalso;omega)|(refine Done.rt rfl rfl ⟨?_,rfl,rfl⟩;try rfl)
 rw [if_neg (fun h=>h h2)];rw [h2] at hf
 repeat' (first|(apply Aa.fn;rfl;rfl;exact hp;intro _;rfl)|(apply Aa.fn;rfl;rfl;exact hn;intro _;rfl)|(apply Aa.fn;rfl;rfl;exact hf;intro _;rfl)|refine go1 ?_|(apply Aa.int;rfl;rfl;rfl)|(apply Ad.Aj;rfl)|(apply Ad.Au;rfl)|(intro _;try (exfalso;omega)))
 all_goals try contradiction
 all_goals try (exfalso;omega)
 ·rw [if_pos (by omega)];(refine Done.rt rfl rfl ⟨?_,rfl,rfl⟩;try rfl)
 ·rw [if_neg (by omega),if_pos (by omega)];(refine Done.rt rfl rfl ⟨?_,rfl,rfl⟩;try rfl)
 rw [if_neg (by omega),if_neg (by omega)];refine Ad.DK (fun k:Nat=>[(2,.ref 0 0),(3,.ref 1 0),(36,lst 273 s.IX),(37,.p (.int .i64 (s.IX.length:Int))),(38,.p (.int .i64 (k:Int)))]) (fun _=>[(1,.box 229 ((Enc.enc s).map .p)),(0,.box 277 ((a0i rk lo hi).map .p))]) 2 (fun k=>k≤s.IX.length∧MW rk.length lo hi s.IX k=MW rk.length lo hi s.IX 0) (fun k=>s.IX.length-k) 0 (by omega) ⟨by omega,rfl⟩ ⟨by omega,?_,?_⟩ ?_
 ·exact Dl
 ·exact Eh
 rintro k ⟨hk,hE⟩;rw [← hE];by_cases hkl:k<s.IX.length
 ·have hsm:=(q3 k hkl).draws
  have hd:=uF rk lo hi (gi s.IX k).draws hsm hr;rw [MW,if_pos hkl];have hk1:((k:Int)-1).toNat=k-1:=by omega
  have hkc:0<k→((k-1:Nat):Int)=(k:Int)-1:=fun h=>by omega
  generalize hD:Y4 rk.length (gi s.IX k).draws=D at *
  repeat' (first|(apply Aa.fn;rfl;rfl;exact hd;intro _;rfl)|(apply Aa.Ap;rfl;rfl;rfl;omega;rfl)|(apply Aa.a7e;rfl;rfl;rfl;omega;omega;rfl)|refine FT ?_|(apply Ai.guard;rfl;rfl)|(apply Ag.guard;rfl;rfl)|(apply Ag.Yz;rfl;rfl)|(apply Aa.int;rfl;rfl;rfl)|(apply Aa.b2b;rfl;rfl)|(apply Aa.b4w;rfl;rfl)|(apply Ad.Ac;rfl)|(apply Ad.cond_true;rfl)|(apply Ad.cond_false;rfl)|(apply Ad.Au;rfl)|(intro _;try (exfalso;omega)))
  all_goals try (exfalso;omega)
  all_goals first
   |(rw [if_pos (by omega)];(refine Done.rt rfl rfl ⟨?_,rfl,rfl⟩;try rfl);done)
   |(rw [if_neg (by omega),if_pos (by omega)];(refine Done.rt rfl rfl ⟨?_,rfl,rfl⟩;try rfl);done)
   |(rw [if_neg (by omega),if_neg (by omega),if_pos (by omega)];(refine Done.rt rfl rfl ⟨?_,rfl,rfl⟩;try rfl);done)
   |(rw [if_neg (by omega),if_neg (by omega),if_neg (by omega)]
     refine Ah.normal ⟨k+1,⟨by omega,?_⟩,by omega,⟨by omega,?_,?_⟩⟩
     ·first|rfl|(refine ee ?_ hE;symm;(conv=>lhs;rw [MW]);rw [if_pos hkl,if_neg (by omega),if_neg (by omega),if_neg (by omega)])
     ·exact Dl
     ·exact Eh)
 ·rw [MW,if_neg hkl]
  repeat' (first|refine go2 ?_|(apply Ad.Ac;rfl)|(intro _;try (exfalso;omega)))
  all_goals first|(exfalso;omega)|(refine Done.rt rfl rfl ⟨?_,rfl,rfl⟩;try rfl)
theorem b1n {L:Vm.Frame} {H:Vm.Heap} {nx:Nat} {Q:PV→Vm.Heap→Nat→Prop} {dst:Option Tmp} {ty:TypeId} {pos:String} {af:Array Edge} {gd:Option (Nat×Bool)} {fo:Operand} {args:Array Operand} {aT:Array TypeId} {fs cs xs:List PV} {c:Code}
 (hf:AU env.Γ L fo=some (.clo 158 fs cs)) (ha:evs env.Γ L args.toList=some xs) (hb:Tryz.f158.body=some c) (hn:(fs++xs++cs).length≤Tryz.f158.ntmps)
 (h:Ad env nx c (Ce 0 (fs++xs++cs)) H nx (AB env.P Tryz.f158.results.toList Q)):Aa env true ⟨dst,.call { callee:=.value fo,args:=args,argTypes:=aT },ty,pos,af,gd⟩ L H nx Q:=by
 have h0:(match Tryz.f158.body with|some c=>II env.G Tryz.f158 c|none=>false)=true:=by kernel_rfl
 rw [hb] at h0;exact Aa.inline rfl hf ha (Ae (by decide)) Tryz.func158 hb h0 hn h
theorem a9e {L:Vm.Frame} {H:Vm.Heap} {nx:Nat} {Q:PV→Vm.Heap→Nat→Prop} {dst:Option Tmp} {ty:TypeId} {pos:String} {af:Array Edge} {gd:Option (Nat×Bool)} {fo:Operand} {args:Array Operand} {aT:Array TypeId} {fs cs xs:List PV} {c:Code}
 (hf:AU env.Γ L fo=some (.clo 183 fs cs)) (ha:evs env.Γ L args.toList=some xs) (hb:Tryz.f183.body=some c) (hn:(fs++xs++cs).length≤Tryz.f183.ntmps)
 (h:Ad env nx c (Ce 0 (fs++xs++cs)) H nx (AB env.P Tryz.f183.results.toList Q)):Aa env true ⟨dst,.call { callee:=.value fo,args:=args,argTypes:=aT },ty,pos,af,gd⟩ L H nx Q:=by
 have h0:(match Tryz.f183.body with|some c=>II env.G Tryz.f183 c|none=>false)=true:=by kernel_rfl
 rw [hb] at h0;exact Aa.inline rfl hf ha (Ae (by decide)) Tryz.func183 hb h0 hn h
theorem zf {L:Vm.Frame} {H:Vm.Heap} {nx:Nat} {Q:PV→Vm.Heap→Nat→Prop} {dst:Option Tmp} {ty:TypeId} {pos:String} {af:Array Edge} {gd:Option (Nat×Bool)} {fo:Operand} {args:Array Operand} {aT:Array TypeId} {fs cs xs:List PV} {c:Code}
 (hf:AU env.Γ L fo=some (.clo 159 fs cs)) (ha:evs env.Γ L args.toList=some xs) (hb:Tryz.f159.body=some c) (hn:(fs++xs++cs).length≤Tryz.f159.ntmps)
 (h:Ad env nx c (Ce 0 (fs++xs++cs)) H nx (AB env.P Tryz.f159.results.toList Q)):Aa env true ⟨dst,.call { callee:=.value fo,args:=args,argTypes:=aT },ty,pos,af,gd⟩ L H nx Q:=by
 have h0:(match Tryz.f159.body with|some c=>II env.G Tryz.f159 c|none=>false)=true:=by kernel_rfl
 rw [hb] at h0;exact Aa.inline rfl hf ha (Ae (by decide)) Tryz.func159 hb h0 hn h
theorem jQ (ks:List lM) (l:List lQ) (hk0:ks.length<1000000) (hl:l.length<1000000) (hn0:∀ i,i<l.length→(gi l i).name.length<1000000):Ak env 121 [.lst 115 (cells ks) ks.length,.lst 236 (cells l) l.length] (.p (.int .i64 (Eo ks l))):=by
 unfold Eo;refine Ak.enter (Ae (by decide)) Tryz.func121 rfl (by kernel_rfl) (by simp [Tryz.ntmps121]) ?_;by_cases h0:ks.length>8∨l.length>40
 ·rw [if_pos h0]
  repeat' (first|refine JA ?_|(apply Ai.guard;rfl;rfl)|(apply Ad.AX;rfl)|(apply Ad.Ac;rfl)|(intro _;try (exfalso;omega)))
  all_goals first|(exfalso;omega)|(refine Done.rt rfl rfl ⟨?_,rfl,rfl⟩;try rfl)
 rw [if_neg h0]
 repeat' (first|refine JA ?_|(apply Ai.guard;rfl;rfl)|(apply Ad.Ac;rfl)|(intro _;try (exfalso;omega)))
 all_goals try (exfalso;omega)
 refine Ad.DK (fun k:Nat=>[(0,lst 115 ks),(1,lst 236 l),(17,lst 115 ks),(18,.p (.int .i64 (ks.length:Int))),(19,.p (.int .i64 (k:Int)))]) (fun _=>[]) 0 (fun k=>k≤ks.length∧Tn ks k=Tn ks 0) (fun k=>ks.length-k) 0 (by omega) ⟨by omega,rfl⟩ ⟨by omega,?_,BH.nil⟩ ?_
 ·exact Dl
 rintro k ⟨hk,hE⟩;by_cases hkl:k<ks.length
 ·have hc:=aI (gi ks k).lo (gi ks k).hi
  by_cases h1:XM (gi ks k).lo (gi ks k).hi=0
  ·rw [h1] at hc
   repeat' (first|(apply Aa.fn;rfl;rfl;exact hc;intro _;rfl)|(apply Aa.Ap;rfl;rfl;rfl;omega;rfl)|refine go1 ?_|(apply Aa.int;rfl;rfl;rfl)|(apply Ad.Ac;rfl)|(apply Ad.cond_false;rfl)|(intro _;try (exfalso;omega)))
   all_goals try (exfalso;omega)
   all_goals try contradiction
   refine Ah.normal ⟨k+1,⟨by omega,?_⟩,by omega,⟨by omega,?_,BH.nil⟩⟩
   ·first|rfl|(refine ee ?_ hE;symm;(conv=>lhs;rw [Tn]);rw [if_pos hkl,if_neg (fun h=>h h1)])
   ·exact Dl
  ·have e:Tn ks 0=23:=by rw [← hE,Tn,if_pos hkl,if_pos h1]
   rw [if_pos (by rw [e];decide),e]
   repeat' (first|(apply Aa.fn;rfl;rfl;exact hc;intro _;rfl)|(apply Aa.Ap;rfl;rfl;rfl;omega;rfl)|refine go1 ?_|(apply Aa.int;rfl;rfl;rfl)|(apply Ad.Ac;rfl)|(apply Ad.Au;rfl)|(intro _;try (exfalso;omega)))
   all_goals first|(exfalso;omega)|contradiction|(refine Done.rt rfl rfl ⟨?_,rfl,rfl⟩;try rfl)
 obtain rfl:k=ks.length:=by omega
 have e:Tn ks 0=0:=by rw [← hE,Tn,if_neg (by omega)]
 rw [if_neg (fun h=>h e)]
 repeat' (first|refine go2 ?_|(apply Ad.Ac;rfl)|(intro _;try (exfalso;omega)))
 all_goals try (exfalso;omega)
 refine Ad.DK (fun k:Nat=>[(0,lst 115 ks),(1,lst 236 l),(27,lst 236 l),(28,.p (.int .i64 (l.length:Int))),(29,.p (.int .i64 (k:Int)))]) (fun _=>[]) 0 (fun k=>k≤l.length∧Ry ks.length l k=Ry ks.length l 0) (fun k=>l.length-k) 0 (by omega) ⟨by omega,rfl⟩ ⟨by omega,?_,BH.nil⟩ ?_
 ·exact Dl
 rintro k ⟨hk,hE⟩;rw [← hE];by_cases hkl:k<l.length
 case neg =>
  rw [Ry,if_neg hkl]
  repeat' (first|refine go2 ?_|(apply Ad.Ac;rfl)|(intro _;try (exfalso;omega)))
  all_goals first|(exfalso;omega)|(refine Done.rt rfl rfl ⟨?_,rfl,rfl⟩;try rfl)
 rw [Ry,if_pos hkl];have hN:=Iu (gi l k).name (by have:=hn0 k hkl;omega);by_cases h1:Dy (gi l k).name
 case neg =>
  rw [if_pos h1];rw [decide_eq_false h1] at hN
  repeat' (first|(apply Aa.fn;rfl;rfl;exact hN;intro _;rfl)|(apply Aa.Ap;rfl;rfl;rfl;omega;rfl)|refine go1 ?_|apply Ad.MB|(apply Aa.int;rfl;rfl;rfl)|(apply Ad.Ac;rfl)|(apply Ad.cond_true;rfl)|(intro _;try (exfalso;omega)))
  all_goals first|(exfalso;omega)|contradiction|(refine Done.rt rfl rfl ⟨?_,rfl,rfl⟩;try rfl)
 rw [if_neg (fun h=>h h1)];rw [decide_eq_true h1] at hN;have hT:(gi l k).name∈(l.take k).map lQ.name↔∃ j,j<k∧(gi l j).name=(gi l k).name:=by
  rw [bb];constructor
  ·rintro ⟨a,ha,e⟩
   obtain ⟨j,h1,h2⟩:=YJ.1 ha;rw [aw] at h1;rw [XZ (by omega)] at h2;exact ⟨j,by omega,by rw [h2,e]⟩
  ·rintro ⟨j,hj,e⟩
   exact ⟨gi l j,YJ.2 ⟨j,by rw [aw];omega,XZ hj⟩,e⟩
 repeat' (first|(apply Aa.fn;rfl;rfl;exact hN;intro _;rfl)|(apply b1n;rfl;rfl;rfl;exact le_dec rfl)|(apply a9e;rfl;rfl;rfl;exact le_dec rfl)|(apply Aa.makeFunc;rfl;rfl)|(apply Aa.Ap;rfl;rfl;rfl;omega;rfl)|refine go1 ?_|apply Ad.MB|(apply Aa.sliceTo;rfl;rfl;rfl;rfl;rfl;rfl;omega)|(apply Aa.int;rfl;rfl;rfl)|(apply Ad.Ac;rfl)|(apply Ad.cond_false;rfl)|(intro _;try (exfalso;omega)))
 all_goals try (exfalso;omega)
 all_goals try contradiction
 refine Ad.DK (fun j:Nat=>[(0,.p (.lst 236 (cells (l.take k)) k)),(1,.clo 159 [] [.ref 0 0]),(7,.p (.int .i64 (k:Int))),(8,.p (.int .i64 (j:Int)))]) (fun _=>[(0,.box 236 ((Enc.enc (gi l k)).map .p))]) 1 (fun j=>j≤k∧∀ i,i<j→(gi l i).name≠(gi l k).name) (fun j=>k-j) 0 (by omega) ⟨by omega,fun i hi=>by omega⟩ ⟨by omega,?_,?_⟩ ?_
 ·exact Dl
 ·exact Eh
 rintro j ⟨hj,hok⟩;by_cases hjk:j<k
 ·have hgt:gi (l.take k) j=gi l j:=XZ hjk
  have hlt:(l.take k).length=k:=by rw [aw];omega
  generalize hg:decide ((gi l j).name=(gi l k).name)=g at *;have hg2:decide ((gi (l.take k) j).name=(gi l k).name)=g:=by rw [hgt];exact hg
  cases g
  ·repeat' (first|(apply zf;rfl;rfl;rfl;exact le_dec rfl)|(apply Aa.b7w;rfl;rfl;exact hg2)|(apply Aa.Ap (l:=l.take k) (i:=j);rfl;rfl;rfl;omega;exact hlt)|refine go1 ?_|(apply AB.ret;rfl)|(apply Aa.int;rfl;rfl;rfl)|(apply Ad.Ac;rfl)|(apply Ad.cond_false;rfl)|(intro _;try (exfalso;omega)))
   all_goals try (exfalso;omega)
   refine Ah.normal ⟨j+1,⟨by omega,fun i hi=>?_⟩,by omega,⟨by omega,?_,?_⟩⟩
   ·rcases aq i j with h|h
    ·exact hok i h
    ·obtain rfl:i=j:=by omega
     exact of_decide_eq_false hg
   ·exact Dl
   ·exact Eh
  ·rw [if_pos (hT.2 ⟨j,hjk,of_decide_eq_true hg⟩)]
   repeat' (first|(apply zf;rfl;rfl;rfl;exact le_dec rfl)|(apply Aa.b7w;rfl;rfl;exact hg2)|(apply Aa.Ap (l:=l.take k) (i:=j);rfl;rfl;rfl;omega;exact hlt)|refine go1 ?_|(apply AB.ret;rfl)|(apply Aa.int;rfl;rfl;rfl)|(apply Ad.Ac;rfl)|(apply Ad.cond_true;rfl)|(intro _;try (exfalso;omega)))
   all_goals first|(exfalso;omega)|contradiction|(refine Done.rt rfl rfl ⟨?_,rfl,rfl⟩;try rfl)
 obtain rfl:j=k:=by omega
 rw [if_neg (fun h=>by obtain ⟨i,h1,h2⟩:=hT.1 h;exact hok i h1 h2)]
 repeat' (first|refine JA ?_|(apply AB.ret;rfl)|(apply Ai.guard;rfl;rfl)|(apply Ad.Ac;rfl)|(apply Ad.cond_true;rfl)|(apply Ad.cond_false;rfl)|(apply Ad.Au;rfl)|(intro _;try (exfalso;omega)))
 all_goals try (exfalso;omega)
 all_goals try contradiction
 all_goals first
  |(rw [if_pos (by omega)];(refine Done.rt rfl rfl ⟨?_,rfl,rfl⟩;try rfl);done)
  |(rw [if_neg (by omega),if_pos (by omega)];(refine Done.rt rfl rfl ⟨?_,rfl,rfl⟩;try rfl);done)
  |(rw [if_neg (by omega),if_neg (by omega),if_pos (by omega)];(refine Done.rt rfl rfl ⟨?_,rfl,rfl⟩;try rfl);done)
  |(rw [if_neg (by omega),if_neg (by omega),if_neg (by omega)]
    refine Ah.normal ⟨j+1,⟨by omega,?_⟩,by omega,⟨by omega,?_,BH.nil⟩⟩
    ·first|rfl|(refine ee ?_ hE;symm;(conv=>lhs;rw [Ry]);rw [if_pos hkl,if_neg (fun h=>h h1),if_neg (fun h=>by obtain ⟨i,h1,h2⟩:=hT.1 h;exact hok i h1 h2),if_neg (by omega),if_neg (by omega),if_neg (by omega)])
    ·exact Dl)
end Go.Proofs.YtnjkoebfgcbbdaaGreatDoor
