/-
  Texts of a proof, merged (OrF, RkJ, RkK, RkL, OrG, OrH, OrI, OrC, OrD). Conditions: in each statement.
-/
import Derived.Test.YtnjkoebfgcbbdaaGreatDoorKCi
set_option linter.unusedSimpArgs false
set_option linter.unusedVariables false
set_option linter.unusedSectionVars false
set_option maxRecDepth 100000
set_option maxHeartbeats 8000000
abbrev bj:=@Int.le_refl
abbrev bx:=@Int.emod_lt_of_pos
abbrev bA:=@Int.emod_nonneg
namespace Go.Proofs.YtnjkoebfgcbbdaaGreatDoor
open Go Go.Am Go.Vm
attribute [local irreducible] Aa Ah Af Ad Az Ai Ba Bq Bd Aj Vm.Done Bg AB
structure Pul where
 rank:Nat
 Ej:Nat
 kind:Nat
 at_:Nat
instance:Enc Pul:={ default:=⟨0,0,0,0⟩,enc:=fun x=>[.int .u8 (x.rank:Int),.int .u8 (x.Ej:Int),.int .u8 (x.kind:Int),.int .u8 (x.at_:Int)],size:=4,len:=fun _=>rfl }
structure Pul.Ok (x:Pul):Prop where
 rank:x.rank<256
 Ej:x.Ej<256
 kind:x.kind<256
 at_:x.at_<256
structure Brd where
 low:Nat
 keys:Nat
 Xb:Bool
 stops:List Pul
instance:Enc Brd:={ default:=⟨0,0,false,[]⟩,enc:=fun x=>[.int .u8 (x.low:Int),.int .u8 (x.keys:Int),.bool x.Xb,.lst 232 (cells x.stops) x.stops.length],size:=4,len:=fun _=>rfl }
structure Brd.Ok (x:Brd):Prop where
 low:x.low<256
 keys:x.keys<256
 stops:x.stops.length<9223372036854775808
 all:∀ i,i<x.stops.length→(gi x.stops i).Ok
structure Lnk where
 Wn:Nat
 tgt:Nat
 shift:Int
 through:Bool
instance:Enc Lnk:={ default:=⟨0,0,0,false⟩,enc:=fun x=>[.int .u8 (x.Wn:Int),.int .u8 (x.tgt:Int),.int .i8 x.shift,.bool x.through],size:=4,len:=fun _=>rfl }
structure Lnk.Ok (x:Lnk):Prop where
 Wn:x.Wn<256
 tgt:x.tgt<256
 shift:-128≤x.shift∧x.shift≤127
instance b8n:Enc G6:={ default:=⟨0,0,0,0,[]⟩,enc:=G6.enc,size:=9,len:=fun _=>rfl }
structure OPl where
 ranks:List G6
 Ag:List Brd
 links:List Lnk
def OPl.enc (x:OPl):List FV:=[.lst 226 (cells x.ranks) x.ranks.length,.lst 211 (cells x.Ag) x.Ag.length,.lst 234 (cells x.links) x.links.length]
structure OPl.Ok (x:OPl):Prop where
 ranks:∀ i,i<x.ranks.length→(gi x.ranks i).Ok
 Ag:∀ i,i<x.Ag.length→(gi x.Ag i).Ok
 links:∀ i,i<x.links.length→(gi x.links i).Ok
 nr:x.ranks.length<9223372036854775808
 nd:x.Ag.length<9223372036854775808
 nl:x.links.length<9223372036854775808
def SE:List LK:=[⟨8,1⟩,⟨4,1⟩,⟨16,1⟩,⟨8,3⟩,⟨2,1⟩,⟨8,5⟩]
theorem uU (n:Nat) (hn:n<256):Ai env 151 [.int .u8 (n:Int)] (.p (.agg (Enc.enc (gi SE (n % 6))))):=by
 refine Ai.enter (Ae (by decide)) Tryz.func151 rfl (by kernel_rfl) (by simp [Tryz.ntmps151]) ?_;have hlt:n % 6<6:=ao _ (by decide)
 repeat' (first|(refine Ah.Gz 12 ?_;refine Ah.ghost (Ar.freeze 9 rfl rfl) ?_)|apply Ad.Bf|apply Ad.ret|apply Ah.nil|apply Ah.one|(apply Aa.Ap (l:=SE) (i:=n % 6);rfl;rfl;rfl;exact hlt;rfl)|(apply Aa.move;rfl)|(apply Aa.KL;rfl;rfl;omega;omega)|(apply Aa.load;rfl;rfl)|(apply Aa.alloc;rfl)|(apply Aa.Dz;rfl;rfl;rfl;trivial;rfl;rfl;exact AY rfl;exact le_dec rfl)|(apply Aa.build;rfl;rfl;rfl;rfl;rfl)|(apply Aa.buildSlice;rfl;rfl;rfl;decide;rfl;rfl;rfl))
 all_goals (refine Done.rt rfl rfl ⟨?_,rfl,rfl⟩;try rfl)
theorem a5h:∀ n,n<6→pOk (gi SE n) :=by decide
theorem a7t:∀ a,a<6→∀ b,b<16→(AV (gi SE a) (gi SA b)).2=0∧-100≤(AV (gi SE a) (gi SA b)).1∧(AV (gi SE a) (gi SA b)).1≤100 :=by decide
structure zO (rk:List Hw):Prop where
 len:0<rk.length∧rk.length≤3
 ok:∀ i,i<rk.length→BR (gi rk i)=0∧∃ b,b<16∧(gi rk i).Ej=gi SA b
attribute [local irreducible] BR A8 AV
theorem b1r (rk:List Hw) (lo hi:Int) (x:Pul) (i:Nat) (hrk:zO rk) (hc:0≤lo∧lo≤hi∧hi≤127) (hx:x.Ok) (hi9:i≤9) :
 ∃ s:Stp,Ai env 115 [.lst 113 (cells rk) rk.length,.agg [.int .i64 lo,.int .i64 hi],.agg (Enc.enc x),.int .i64 (i:Int)] (.p (.agg (Enc.enc s)))∧s.name=OA 83 i∧DJ rk lo hi s=0∧nS s∧∃ a,a<6∧s.Ej=gi SE a:=by
 obtain ⟨hl,hok⟩:=hrk;obtain ⟨x1,x2,x3,x4⟩:=hx;obtain ⟨n,hn⟩:∃ n,n=x.rank % rk.length:=⟨_,rfl⟩
 have hnl:n<rk.length:=by rw [hn];exact ao _ hl.1
 obtain ⟨m,hm⟩:∃ m,m=(n+1) % rk.length:=⟨_,rfl⟩
 have hml:m<rk.length:=by rw [hm];exact ao _ hl.1
 have hf6:=uU x.Ej x2;have h6:x.Ej % 6<6:=ao _ (by decide);have f6:=a5h _ h6;obtain ⟨-,b,hb,eb⟩:=hok n hnl;obtain ⟨-,c,hc2,ec⟩:=hok m hml;have s1:=a7t _ h6 b hb;have s2:=a7t _ h6 c hc2;rw [← eb] at s1;rw [← ec] at s2;generalize hF:gi SE (x.Ej % 6)=F at *;have q1:=Xd F (gi rk n).Ej;have q2:=Xd F (gi rk m).Ej;rw [s1.1] at q1;rw [s2.1] at q2;generalize (AV F (gi rk n).Ej).1=sh at *;generalize (AV F (gi rk m).Ej).1=so at *;have c5l:qI rk lo hi=0:=a0z (fun i h=>(hok i h).1) (by omega) hc;have stE:∀ g:List Seg,(0<g.length∧g.length≤12)→NU rk.length lo hi g 0=0→DJ rk lo hi ⟨OA 83 i,F,g⟩=0:=fun g h1 h2=>by
  unfold DJ b6l;rw [if_neg (fun h=>h c5l),if_neg (fun h=>h (vO (by decide) (by omega))),if_neg (fun h=>h (Va.2 f6)),if_neg (by simp only;omega),if_neg (by simp only;omega)];exact h2
 have sm:∀ g:List Seg,g.length<1000000→(∀ j,j<g.length→(gi g j).draws.length<1000000)→nS ⟨OA 83 i,F,g⟩:=fun g h1 h2=>⟨by simp [OA],h1,fun j hj=>⟨h2 j hj⟩⟩
 have mY:Xx rk.length ⟨n,sh⟩:=⟨⟨by simp only;omega,by simp only;omega⟩,⟨by simp only;omega,by simp only;omega⟩⟩
 have hn2:(n:Int)=(x.rank:Int) % rk.length:=by rw [hn];simp
 obtain ⟨d,hd⟩:∃ d:Nat,(d:Int)=(x.at_:Int) % (hi-lo+1):=⟨((x.at_:Int) % (hi-lo+1)).toNat,by have:=bA (x.at_:Int) (show hi-lo+1≠0 by omega);omega⟩
 have hd2:(d:Int)≤hi-lo:=by have:=bx (x.at_:Int) (show 0<hi-lo+1 by omega);omega
 have hk6:x.kind % 6<6:=ao _ (by decide);rw [hm,hn] at q2 hml;rw [hn] at q1 hnl;have hm2:(m:Int)=((x.rank:Int) % rk.length+1) % rk.length:=by rw [hm,hn];simp
 have hAt:lo+(d:Int)=lo+(x.at_:Int) % (hi-lo+1):=by omega
 rw [hn2] at mY;have dSo:Xx rk.length ⟨((x.rank:Int) % rk.length+1) % rk.length,so⟩:=by
  rw [← hm2];exact ⟨⟨by simp only;omega,by simp only;rw [hm];have:=ao (n+1) hl.1;omega⟩,⟨by simp only;omega,by simp only;omega⟩⟩
 have dTw:Xx rk.length ⟨(x.rank:Int) % rk.length,sh-12⟩:=⟨mY.rank,⟨by simp only;omega,by simp only;omega⟩⟩
 have dTh:Xx rk.length ⟨(x.rank:Int) % rk.length,sh+7⟩:=⟨mY.rank,⟨by simp only;omega,by simp only;omega⟩⟩
 by_cases k2:x.kind % 6=2
 ·refine ⟨⟨OA 83 i,F,[⟨lo,hi,[⟨(x.rank:Int) % rk.length,sh⟩,⟨(x.rank:Int) % rk.length,sh+7⟩]⟩]⟩,?_,rfl,?_,?_,_,h6,hF.symm⟩
  ·refine Ai.enter (Ae (by decide)) Tryz.func115 rfl (by kernel_rfl) (by simp [Tryz.ntmps115]) ?_
   repeat' (first|(refine Ad.at 5 ?_;refine Ad.ghost (Ar.freeze 13 rfl rfl) ?_;first|apply Ad.Bf|apply Ad.Bl)|(refine Ad.at 22 ?_;refine Ad.ghost (Ar.BI 4 3 rfl rfl rfl) ?_;first|apply Ad.Bf|apply Ad.Bl)|(refine Ah.Gz 88 ?_;refine Ah.ghost (Ar.freeze 87 rfl rfl) ?_)|apply Ad.assoc|apply Ad.Bf|apply Ad.Bl|apply Ad.region|apply Ad.CW|apply Bq.normal|apply Bd.normal|apply Ad.ret|apply Ah.nil|apply Af.nil|apply Ah.one|(apply Af.bar;decide +kernel)|apply Af.quiet|(apply Aa.fn;rfl;rfl;exact hf6;intro _;rfl)|(apply Aa.fn;rfl;rfl;exact q1;intro _;rfl)|(apply Aa.Il;rfl;rfl;rfl;rfl;rfl;omega)|(apply Aa.Ap (l:=rk) (i:=x.rank % rk.length);rfl;rfl;rfl;exact hnl;rfl)|(apply Aa.assign;rfl)|(apply Aa.move;rfl)|(apply Aa.Jl;rfl;rfl;omega)|(apply Aa.qY;rfl;rfl;omega)|(apply Aa.KL;rfl;rfl;omega;omega)|(apply Aa.int;rfl;rfl;rfl)|(apply Aa.load;rfl;rfl)|(apply Aa.Nk;rfl;rfl)|(apply Aa.D8;rfl;rfl;rfl)|(apply Aa.kP;rfl;rfl)|(apply Aa.box;rfl;trivial)|(apply Aa.alloc;rfl)|(apply Aa.Dz;rfl;rfl;rfl;trivial;rfl;rfl;exact AY rfl;exact le_dec rfl)|(apply Aa.build;rfl;rfl;rfl;rfl;rfl)|(apply Aa.buildSlice;rfl;rfl;rfl;decide;rfl;rfl;rfl)|(apply Aa.X9;rfl;rfl;(first|omega|(simp only [List.length_take,List.length_drop,List.length_append,List.length_singleton,List.length_cons,List.length_nil]<;>omega)))|(apply Aa.extract;rfl;rfl)|(apply Aa.Ea;rfl;rfl;rfl;rfl;omega)|(apply Aa.Nb;rfl;rfl;rfl;rfl;omega)|(apply Ad.Aq;rfl)|(intro _;try (exfalso;omega)))
   all_goals first|(exfalso;omega)|contradiction|(refine Done.rt rfl rfl ⟨?_,rfl,rfl⟩;rfl)
  ·exact stE _ (by simp) (NS ⟨bj _,hc.2.1,bj _⟩ (a6f mY dTh (fun h=>by have:=congrArg tH.shift h;simp only at this;omega)))
  ·refine sm _ (by simp) (fun j hj=>?_)
   obtain rfl:j=0:=by simp at hj;omega
   show 2<1000000;decide
 by_cases k5:x.kind % 6=5
 ·refine ⟨⟨OA 83 i,F,[⟨lo+(x.at_:Int) % (hi-lo+1),hi,[⟨(x.rank:Int) % rk.length,sh⟩]⟩]⟩,?_,rfl,?_,?_,_,h6,hF.symm⟩
  ·refine Ai.enter (Ae (by decide)) Tryz.func115 rfl (by kernel_rfl) (by simp [Tryz.ntmps115]) ?_
   repeat' (first|(refine Ad.at 5 ?_;refine Ad.ghost (Ar.freeze 13 rfl rfl) ?_;first|apply Ad.Bf|apply Ad.Bl)|(refine Ad.at 22 ?_;refine Ad.ghost (Ar.BI 4 3 rfl rfl rfl) ?_;first|apply Ad.Bf|apply Ad.Bl)|(apply Aa.fn;rfl;rfl;exact hf6;intro _;rfl)|(apply Aa.fn;rfl;rfl;exact q1;intro _;rfl)|(apply Aa.Ap (l:=rk) (i:=x.rank % rk.length);rfl;rfl;rfl;exact hnl;rfl)|refine go1 ?_|apply Ad.Bf|apply Ad.Bl|apply Ad.region|(apply Aa.Il;rfl;rfl;rfl;rfl;rfl;omega)|(apply Aa.int;rfl;rfl;rfl)|(apply Aa.build;rfl;rfl;rfl;rfl;rfl)|(apply Aa.buildSlice;rfl;rfl;rfl;decide;rfl;rfl;rfl)|(apply Aa.X9;rfl;rfl;(first|omega|(simp only [List.length_take,List.length_drop,List.length_append,List.length_singleton,List.length_cons,List.length_nil]<;>omega)))|(apply Aa.Ea;rfl;rfl;rfl;rfl;omega)|(apply Aa.Nb;rfl;rfl;rfl;rfl;omega)|(apply Ad.Ac;rfl)|(apply Ad.Aq;rfl)|(intro _;try (exfalso;omega)))
   all_goals first|(exfalso;omega)|contradiction|(refine Done.rt rfl rfl ⟨?_,rfl,rfl⟩;rfl)
  ·exact stE _ (by simp) (NS ⟨by simp only;omega,by simp only;omega,bj _⟩ (JU mY))
  ·refine sm _ (by simp) (fun j hj=>?_)
   obtain rfl:j=0:=by simp at hj;omega
   show 1<1000000;decide
 by_cases k01:x.kind % 6<2
 ·refine ⟨⟨OA 83 i,F,[⟨lo,hi,[⟨(x.rank:Int) % rk.length,sh⟩]⟩]⟩,?_,rfl,?_,?_,_,h6,hF.symm⟩
  ·refine Ai.enter (Ae (by decide)) Tryz.func115 rfl (by kernel_rfl) (by simp [Tryz.ntmps115]) ?_
   repeat' (first|(refine Ad.at 5 ?_;refine Ad.ghost (Ar.freeze 13 rfl rfl) ?_;first|apply Ad.Bf|apply Ad.Bl)|(refine Ad.at 22 ?_;refine Ad.ghost (Ar.BI 4 3 rfl rfl rfl) ?_;first|apply Ad.Bf|apply Ad.Bl)|(apply Aa.fn;rfl;rfl;exact hf6;intro _;rfl)|(apply Aa.fn;rfl;rfl;exact q1;intro _;rfl)|(apply Aa.Ap (l:=rk) (i:=x.rank % rk.length);rfl;rfl;rfl;exact hnl;rfl)|refine go1 ?_|apply Ad.Bf|apply Ad.Bl|apply Ad.region|(apply Aa.Il;rfl;rfl;rfl;rfl;rfl;omega)|(apply Aa.int;rfl;rfl;rfl)|(apply Aa.build;rfl;rfl;rfl;rfl;rfl)|(apply Aa.buildSlice;rfl;rfl;rfl;decide;rfl;rfl;rfl)|(apply Aa.X9;rfl;rfl;(first|omega|(simp only [List.length_take,List.length_drop,List.length_append,List.length_singleton,List.length_cons,List.length_nil]<;>omega)))|(apply Aa.Ea;rfl;rfl;rfl;rfl;omega)|(apply Aa.Nb;rfl;rfl;rfl;rfl;omega)|(apply Ad.Ac;rfl)|(apply Ad.Aq;rfl)|(intro _;try (exfalso;omega)))
   all_goals first|(exfalso;omega)|contradiction|(refine Done.rt rfl rfl ⟨?_,rfl,rfl⟩;rfl)
  ·exact stE _ (by simp) (NS ⟨bj _,hc.2.1,bj _⟩ (JU mY))
  ·refine sm _ (by simp) (fun j hj=>?_)
   obtain rfl:j=0:=by simp at hj;omega
   show 1<1000000;decide
 by_cases hd0:d=0
 ·by_cases k3:x.kind % 6=3
  ·refine ⟨⟨OA 83 i,F,[⟨lo+(x.at_:Int) % (hi-lo+1),hi,[⟨((x.rank:Int) % rk.length+1) % rk.length,so⟩]⟩]⟩,?_,rfl,?_,?_,_,h6,hF.symm⟩
   ·refine Ai.enter (Ae (by decide)) Tryz.func115 rfl (by kernel_rfl) (by simp [Tryz.ntmps115]) ?_
    repeat' (first|(refine Ad.at 17 ?_;refine Ad.ghost (Ar.trans (Ar.freeze 15 rfl rfl) (Ar.EO 4 3 273 rfl rfl)) ?_;first|apply Ad.Bf|apply Ad.Bl)|(refine Ad.at 5 ?_;refine Ad.ghost (Ar.freeze 13 rfl rfl) ?_;first|apply Ad.Bf|apply Ad.Bl)|(refine Ad.at 22 ?_;refine Ad.ghost (Ar.BI 4 3 rfl rfl rfl) ?_;first|apply Ad.Bf|apply Ad.Bl)|(apply Aa.Dk (l:=([]:List Seg)) (a:=⟨lo+(x.at_:Int) % (hi-lo+1),hi,[⟨((x.rank:Int) % rk.length+1) % rk.length,so⟩]⟩);rfl;rfl;rfl;rfl;rfl;rfl;rfl;rfl;(intro _ h;cases h);rfl;rfl;rfl;decide;decide;(first|omega|(simp only [List.length_nil,List.length_cons]<;>omega)))|(apply Aa.fn;rfl;rfl;exact hf6;intro _;rfl)|(apply Aa.fn;rfl;rfl;exact q1;intro _;rfl)|(apply Aa.fn;rfl;rfl;exact q2;intro _;rfl)|(apply Aa.Ap (l:=rk) (i:=x.rank % rk.length);rfl;rfl;rfl;exact hnl;rfl)|(apply Aa.Ap (l:=rk) (i:=(x.rank % rk.length+1) % rk.length);rfl;rfl;rfl;exact hml;rfl)|refine go1 ?_|apply Ad.Bf|apply Ad.Bl|apply Ad.region|(apply Aa.Il;rfl;rfl;rfl;rfl;rfl;omega)|(apply Aa.int;rfl;rfl;rfl)|(apply Aa.build;rfl;rfl;rfl;rfl;rfl)|(apply Aa.buildSlice;rfl;rfl;rfl;decide;rfl;rfl;rfl)|(apply Aa.X9;rfl;rfl;(first|omega|(simp only [List.length_take,List.length_drop,List.length_append,List.length_singleton,List.length_cons,List.length_nil]<;>omega)))|(apply Aa.Ea;rfl;rfl;rfl;rfl;omega)|(apply Aa.Nb;rfl;rfl;rfl;rfl;omega)|(apply Ad.Ac;rfl)|(apply Ad.Aq;rfl)|(intro _;try (exfalso;omega)))
    all_goals first|(exfalso;omega)|contradiction|(refine Done.rt rfl rfl ⟨?_,rfl,rfl⟩;rfl)
   ·exact stE _ (by simp) (NS ⟨by simp only;omega,by simp only;omega,bj _⟩ (JU dSo))
   ·refine sm _ (by simp) (fun j hj=>?_)
    obtain rfl:j=0:=by simp at hj;omega
    show 1<1000000;decide
  ·refine ⟨⟨OA 83 i,F,[⟨lo+(x.at_:Int) % (hi-lo+1),hi,[⟨(x.rank:Int) % rk.length,sh-12⟩]⟩]⟩,?_,rfl,?_,?_,_,h6,hF.symm⟩
   ·refine Ai.enter (Ae (by decide)) Tryz.func115 rfl (by kernel_rfl) (by simp [Tryz.ntmps115]) ?_
    repeat' (first|(refine Ad.at 17 ?_;refine Ad.ghost (Ar.trans (Ar.freeze 15 rfl rfl) (Ar.EO 4 3 273 rfl rfl)) ?_;first|apply Ad.Bf|apply Ad.Bl)|(refine Ad.at 5 ?_;refine Ad.ghost (Ar.freeze 13 rfl rfl) ?_;first|apply Ad.Bf|apply Ad.Bl)|(refine Ad.at 22 ?_;refine Ad.ghost (Ar.BI 4 3 rfl rfl rfl) ?_;first|apply Ad.Bf|apply Ad.Bl)|(apply Aa.Dk (l:=([]:List Seg)) (a:=⟨lo+(x.at_:Int) % (hi-lo+1),hi,[⟨(x.rank:Int) % rk.length,sh-12⟩]⟩);rfl;rfl;rfl;rfl;rfl;rfl;rfl;rfl;(intro _ h;cases h);rfl;rfl;rfl;decide;decide;(first|omega|(simp only [List.length_nil,List.length_cons]<;>omega)))|(apply Aa.fn;rfl;rfl;exact hf6;intro _;rfl)|(apply Aa.fn;rfl;rfl;exact q1;intro _;rfl)|(apply Aa.Ap (l:=rk) (i:=x.rank % rk.length);rfl;rfl;rfl;exact hnl;rfl)|refine go1 ?_|apply Ad.Bf|apply Ad.Bl|apply Ad.region|(apply Aa.Il;rfl;rfl;rfl;rfl;rfl;omega)|(apply Aa.int;rfl;rfl;rfl)|(apply Aa.build;rfl;rfl;rfl;rfl;rfl)|(apply Aa.buildSlice;rfl;rfl;rfl;decide;rfl;rfl;rfl)|(apply Aa.X9;rfl;rfl;(first|omega|(simp only [List.length_take,List.length_drop,List.length_append,List.length_singleton,List.length_cons,List.length_nil]<;>omega)))|(apply Aa.Ea;rfl;rfl;rfl;rfl;omega)|(apply Aa.Nb;rfl;rfl;rfl;rfl;omega)|(apply Ad.Ac;rfl)|(apply Ad.Aq;rfl)|(intro _;try (exfalso;omega)))
    all_goals first|(exfalso;omega)|contradiction|(refine Done.rt rfl rfl ⟨?_,rfl,rfl⟩;rfl)
   ·exact stE _ (by simp) (NS ⟨by simp only;omega,by simp only;omega,bj _⟩ (JU dTw))
   ·refine sm _ (by simp) (fun j hj=>?_)
    obtain rfl:j=0:=by simp at hj;omega
    show 1<1000000;decide
 ·by_cases k3:x.kind % 6=3
  ·refine ⟨⟨OA 83 i,F,[⟨lo,lo+(x.at_:Int) % (hi-lo+1)-1,[⟨(x.rank:Int) % rk.length,sh⟩]⟩,⟨lo+(x.at_:Int) % (hi-lo+1),hi,[⟨((x.rank:Int) % rk.length+1) % rk.length,so⟩]⟩]⟩,?_,rfl,?_,?_,_,h6,hF.symm⟩
   ·refine Ai.enter (Ae (by decide)) Tryz.func115 rfl (by kernel_rfl) (by simp [Tryz.ntmps115]) ?_
    repeat' (first|(refine Ad.at 17 ?_;refine Ad.ghost (Ar.trans (Ar.freeze 15 rfl rfl) (Ar.EO 4 3 273 rfl rfl)) ?_;first|apply Ad.Bf|apply Ad.Bl)|(refine Ad.at 5 ?_;refine Ad.ghost (Ar.freeze 13 rfl rfl) ?_;first|apply Ad.Bf|apply Ad.Bl)|(refine Ad.at 22 ?_;refine Ad.ghost (Ar.BI 4 3 rfl rfl rfl) ?_;first|apply Ad.Bf|apply Ad.Bl)|(apply Aa.Dk (l:=([]:List Seg)) (a:=⟨lo,lo+(x.at_:Int) % (hi-lo+1)-1,[⟨(x.rank:Int) % rk.length,sh⟩]⟩);rfl;rfl;rfl;rfl;rfl;rfl;rfl;rfl;(intro _ h;cases h);rfl;rfl;rfl;decide;decide;(first|omega|(simp only [List.length_nil,List.length_cons]<;>omega)))|(apply Aa.Dk (l:=([⟨lo,lo+(x.at_:Int) % (hi-lo+1)-1,[⟨(x.rank:Int) % rk.length,sh⟩]⟩]:List Seg)) (a:=⟨lo+(x.at_:Int) % (hi-lo+1),hi,[⟨((x.rank:Int) % rk.length+1) % rk.length,so⟩]⟩);rfl;rfl;rfl;rfl;rfl;rfl;rfl;rfl;(intro _ h;cases h);rfl;rfl;rfl;decide;decide;(first|omega|(simp only [List.length_nil,List.length_cons]<;>omega)))|(apply Aa.fn;rfl;rfl;exact hf6;intro _;rfl)|(apply Aa.fn;rfl;rfl;exact q1;intro _;rfl)|(apply Aa.fn;rfl;rfl;exact q2;intro _;rfl)|(apply Aa.Ap (l:=rk) (i:=x.rank % rk.length);rfl;rfl;rfl;exact hnl;rfl)|(apply Aa.Ap (l:=rk) (i:=(x.rank % rk.length+1) % rk.length);rfl;rfl;rfl;exact hml;rfl)|refine go1 ?_|apply Ad.Bf|apply Ad.Bl|apply Ad.region|(apply Aa.Il;rfl;rfl;rfl;rfl;rfl;omega)|(apply Aa.int;rfl;rfl;rfl)|(apply Aa.build;rfl;rfl;rfl;rfl;rfl)|(apply Aa.buildSlice;rfl;rfl;rfl;decide;rfl;rfl;rfl)|(apply Aa.X9;rfl;rfl;(first|omega|(simp only [List.length_take,List.length_drop,List.length_append,List.length_singleton,List.length_cons,List.length_nil]<;>omega)))|(apply Aa.Ea;rfl;rfl;rfl;rfl;omega)|(apply Aa.Nb;rfl;rfl;rfl;rfl;omega)|(apply Ad.Ac;rfl)|(apply Ad.Aq;rfl)|(intro _;try (exfalso;omega)))
    all_goals first|(exfalso;omega)|contradiction|(refine Done.rt rfl rfl ⟨?_,rfl,rfl⟩;rfl)
   ·exact stE _ (by simp) (gJ ⟨bj _,by simp only;omega,by simp only;omega,by simp only;omega,bj _⟩ (JU mY) (JU dSo))
   ·refine sm _ (by simp) (fun j hj=>?_)
    have:j=0∨j=1:=by simp at hj;omega
    rcases this with rfl|rfl
    ·show 1<1000000
     decide
    ·show 1<1000000
     decide
  ·refine ⟨⟨OA 83 i,F,[⟨lo,lo+(x.at_:Int) % (hi-lo+1)-1,[⟨(x.rank:Int) % rk.length,sh⟩]⟩,⟨lo+(x.at_:Int) % (hi-lo+1),hi,[⟨(x.rank:Int) % rk.length,sh-12⟩]⟩]⟩,?_,rfl,?_,?_,_,h6,hF.symm⟩
   ·refine Ai.enter (Ae (by decide)) Tryz.func115 rfl (by kernel_rfl) (by simp [Tryz.ntmps115]) ?_
    repeat' (first|(refine Ad.at 17 ?_;refine Ad.ghost (Ar.trans (Ar.freeze 15 rfl rfl) (Ar.EO 4 3 273 rfl rfl)) ?_;first|apply Ad.Bf|apply Ad.Bl)|(refine Ad.at 5 ?_;refine Ad.ghost (Ar.freeze 13 rfl rfl) ?_;first|apply Ad.Bf|apply Ad.Bl)|(refine Ad.at 22 ?_;refine Ad.ghost (Ar.BI 4 3 rfl rfl rfl) ?_;first|apply Ad.Bf|apply Ad.Bl)|(apply Aa.Dk (l:=([]:List Seg)) (a:=⟨lo,lo+(x.at_:Int) % (hi-lo+1)-1,[⟨(x.rank:Int) % rk.length,sh⟩]⟩);rfl;rfl;rfl;rfl;rfl;rfl;rfl;rfl;(intro _ h;cases h);rfl;rfl;rfl;decide;decide;(first|omega|(simp only [List.length_nil,List.length_cons]<;>omega)))|(apply Aa.Dk (l:=([⟨lo,lo+(x.at_:Int) % (hi-lo+1)-1,[⟨(x.rank:Int) % rk.length,sh⟩]⟩]:List Seg)) (a:=⟨lo+(x.at_:Int) % (hi-lo+1),hi,[⟨(x.rank:Int) % rk.length,sh-12⟩]⟩);rfl;rfl;rfl;rfl;rfl;rfl;rfl;rfl;(intro _ h;cases h);rfl;rfl;rfl;decide;decide;(first|omega|(simp only [List.length_nil,List.length_cons]<;>omega)))|(apply Aa.fn;rfl;rfl;exact hf6;intro _;rfl)|(apply Aa.fn;rfl;rfl;exact q1;intro _;rfl)|(apply Aa.Ap (l:=rk) (i:=x.rank % rk.length);rfl;rfl;rfl;exact hnl;rfl)|refine go1 ?_|apply Ad.Bf|apply Ad.Bl|apply Ad.region|(apply Aa.Il;rfl;rfl;rfl;rfl;rfl;omega)|(apply Aa.int;rfl;rfl;rfl)|(apply Aa.build;rfl;rfl;rfl;rfl;rfl)|(apply Aa.buildSlice;rfl;rfl;rfl;decide;rfl;rfl;rfl)|(apply Aa.X9;rfl;rfl;(first|omega|(simp only [List.length_take,List.length_drop,List.length_append,List.length_singleton,List.length_cons,List.length_nil]<;>omega)))|(apply Aa.Ea;rfl;rfl;rfl;rfl;omega)|(apply Aa.Nb;rfl;rfl;rfl;rfl;omega)|(apply Ad.Ac;rfl)|(apply Ad.Aq;rfl)|(intro _;try (exfalso;omega)))
    all_goals first|(exfalso;omega)|contradiction|(refine Done.rt rfl rfl ⟨?_,rfl,rfl⟩;rfl)
   ·exact stE _ (by simp) (gJ ⟨bj _,by simp only;omega,by simp only;omega,by simp only;omega,bj _⟩ (JU mY) (JU dTw))
   ·refine sm _ (by simp) (fun j hj=>?_)
    have:j=0∨j=1:=by simp at hj;omega
    rcases this with rfl|rfl
    ·show 1<1000000
     decide
    ·show 1<1000000
     decide
end Go.Proofs.YtnjkoebfgcbbdaaGreatDoor
namespace Go.Proofs.YtnjkoebfgcbbdaaGreatDoor
open Go Go.Am Go.Vm
attribute [local irreducible] Aa Ah Af Ad Az Ai Ba Bq Bd Aj Vm.Done Bg AB
noncomputable instance (a b:LK):Decidable (a=b):=Classical.propDecidable _
noncomputable instance (a b:Hw):Decidable (a=b):=Classical.propDecidable _
def lnC (i c:Nat):Prop:=sS c∨(i≠0∧(c=95∨(48≤c∧c≤57)))
def b9z (r:Hw):Prop:=(r.Fj.length≤30∨r.Fj.length=129)∧r.name.length≤40∧r.JY.length≤40
instance (r:Hw):Decidable (b9z r):=by unfold b9z;infer_instance
attribute [local irreducible] BR A8 shz AV X6
noncomputable def c7k (r:Hw) (f p:Int):FV×Int:=if X6 r f≠0 then (LW,X6 r f) else if p<1∨p>r.Fj.length-f then (LW,3) else b1j r (r.first+f) ((r.Fj.drop f.toNat).take ((f+p).toNat-f.toNat))
noncomputable def d0b (a b:Hw):FV×Int:=if BR a≠0 then (LW,BR a) else if BR b≠0 then (LW,BR b) else if ¬ (a.JY=b.JY∧a.Ej=b.Ej) then (LW,14) else if b.first≠a.first+a.Fj.length then (LW,6) else b1j a a.first (a.Fj++b.Fj)
theorem a5y:∀ n,n<3→DV (gi UZ n)
 |0,_=>a1t
 |1,_=>by
  refine ⟨by decide,by decide,by decide,fun i h1 h2=>?_⟩;have:i=1∨i=2∨i=3∨i=4:=by simp [UZ,gi] at h2;omega
  rcases this with rfl|rfl|rfl|rfl<;>exact .inl (by decide)
 |2,_=>by
  refine ⟨by decide,by decide,by decide,fun i h1 h2=>?_⟩;have:i=1∨i=2∨i=3:=by simp [UZ,gi] at h2;omega
  rcases this with rfl|rfl|rfl<;>exact .inl (by decide)
theorem b3i:∀ n,n<16→pOk (gi SA n) :=by decide
theorem qG (x:G6):∀ k i,i<k→gi (I4 x k) i=((gi x.Fj (i % 5):Nat):Int)
 |k+1,i,h=>by
  rcases ax i k with h1|h1
  ·have:gi (I4 x (k+1)) i=gi (I4 x k) i:=by simp [I4,gi,List.getElem?_append_left (show i<(I4 x k).length by rw [Gm];omega)]
   rw [this];exact qG x k i h1
  ·obtain rfl:i=k:=by omega
   simp [I4,gi,List.getElem?_append_right (show (I4 x i).length≤i by rw [Gm];simp),Gm]
theorem b6r (x:G6) (hx:x.Ok) (i:Int) (hi:0≤i):BR (VI x i)=0:=by
 obtain ⟨h1,h2,h3,h4,h5⟩:=hx;refine xg ⟨by simp [VI],by simp [VI],(show sS (82:UInt8).toNat by decide),fun j j1 j2=>?_⟩ (a5y _ (ao _ (by decide))) (b3i _ (ao _ (by decide))) ⟨by simp only [VI];omega,by simp only [VI];omega⟩ ⟨by simp only [VI,Gm];omega,by simp only [VI,Gm];omega⟩ (fun j hj=>?_)
 ·obtain rfl:j=1:=by simp [VI] at j2;omega
  have e:(gi (VI x i).name 1).toNat=(48+i % 10).toNat:=by
   show (UInt8.ofNat (48+i % 10).toNat).toNat=_;rw [UInt8.toNat_ofNat'];omega
  right;omega
 ·simp only [VI,Gm] at hj ⊢
  rw [qG x _ j hj];have:=h5 (j % 5);unfold jV;omega
theorem b3o {α:Type} [Inhabited α] {l:List α} {P:α→Prop} (h:∀ a∈l,P a) {n:Nat} (hn:n<l.length):P (gi l n):=by
 simp only [gi,List.getElem?_eq_getElem hn,Option.getD_some];grind
theorem b3d (x:G6) (i:Int):c2z (VI x i):=by
 refine ⟨by simp [VI],?_,by simp only [VI,Gm];omega⟩;exact cr (b3o (P:=fun l=>l.length≤5) (by decide) (show x.JY % 3<UZ.length from ao _ (by decide))) (by decide)
theorem a6t (x:G6) (i:Int):(VI x i).Fj.length≤25:=by simp only [VI,Gm];omega
def c6w:Hw:=⟨[],[],⟨0,0⟩,0,[]⟩
end Go.Proofs.YtnjkoebfgcbbdaaGreatDoor
namespace Go.Proofs.YtnjkoebfgcbbdaaGreatDoor
open Go Go.Am Go.Vm
attribute [local irreducible] Aa Ah Af Ad Az Ai Ba Bq Bd Aj Vm.Done Bg AB
def aJ (x:OPl):Prop:=(1≤x.ranks.length∧x.ranks.length≤3)∧(1≤x.Ag.length∧x.Ag.length≤3)∧x.links.length≤3∧∀ i,i<x.Ag.length→(gi x.Ag i).stops.length≤3
noncomputable instance (x:OPl):Decidable (aJ x):=Classical.propDecidable _
theorem a1u (x:OPl) (hx:x.Ok):Ai env 46 [.agg x.enc] (.p (.bool (decide (aJ x)))):=by
 have b1:=hx.nr;have b2:=hx.nd;have b3:=hx.nl;refine Ai.enter (Ae (by decide)) Tryz.func46 rfl (by kernel_rfl) (by simp [Tryz.ntmps46]) ?_;by_cases h0:(1≤x.ranks.length∧x.ranks.length≤3)∧(1≤x.Ag.length∧x.Ag.length≤3)∧x.links.length≤3
 case neg =>
  rw [decide_eq_false (fun h=>h0 ⟨h.1,h.2.1,h.2.2.1⟩)]
  repeat' (first|refine go2 ?_|(apply Ah.guard;rfl;rfl)|(apply Ad.AX;rfl)|(apply Ad.Ac;rfl)|(intro _;try (exfalso;omega)))
  all_goals first|(exfalso;omega)|(refine Done.rt rfl rfl ⟨?_,rfl,rfl⟩;try rfl)
 repeat' (first|refine go2 ?_|(apply Ah.guard;rfl;rfl)|(apply Ad.Ac;rfl)|(intro _;try (exfalso;omega)))
 all_goals try (exfalso;omega)
 refine Ad.D6 (fun k:Nat=>[(1,.ref 0 0),(3,.p (.int .i64 (k:Int)))]) (fun _=>[(0,.box 54 (x.enc.map .p))]) 1 (fun k=>k≤x.Ag.length∧∀ i,i<k→(gi x.Ag i).stops.length≤3) (fun k=>x.Ag.length-k) 0 (by omega) ⟨by omega,fun i hi=>by omega⟩ ⟨by omega,?_,?_⟩ ?_
 ·exact Dy
 ·exact Ey
 rintro k ⟨hk,hok⟩;by_cases hkl:k<x.Ag.length
 ·have hst:=(hx.Ag k hkl).stops
  by_cases h1:(gi x.Ag k).stops.length≤3
  ·repeat' (first|(apply Aa.Ap;rfl;rfl;rfl;omega;rfl)|refine go2 ?_|(apply Ad.Ac;rfl)|(apply Ad.Aq;rfl)|(intro _;try (exfalso;omega)))
   all_goals try (exfalso;omega)
   refine Aj.normal ⟨k+1,⟨by omega,fun i hi=>?_⟩,by omega,⟨by omega,?_,?_⟩⟩
   ·rcases ax i k with h|h
    ·exact hok i h
    ·obtain rfl:i=k:=by omega
     exact h1
   ·exact Dy
   ·exact Ey
  ·rw [decide_eq_false (fun h=>h1 (h.2.2.2 k hkl))]
   repeat' (first|(apply Aa.Ap;rfl;rfl;rfl;omega;rfl)|refine go2 ?_|(apply Ad.Ac;rfl)|(apply Ad.Aq;rfl)|(intro _;try (exfalso;omega)))
   all_goals first|(exfalso;omega)|(refine Done.rt rfl rfl ⟨?_,rfl,rfl⟩;try rfl)
 ·rw [decide_eq_true (show aJ x from ⟨h0.1,h0.2.1,h0.2.2,fun i hi=>hok i (by omega)⟩)]
  repeat' (first|refine go2 ?_|(apply Ad.Ac;rfl)|(intro _;try (exfalso;omega)))
  all_goals first|(exfalso;omega)|(refine Done.rt rfl rfl ⟨?_,rfl,rfl⟩;try rfl)
def a6z (rk:List Hw) (lo hi:Int) (x:Pul) (i:Nat) (s:Stp):Prop :=
 Ai env 115 [.lst 113 (cells rk) rk.length,.agg [.int .i64 lo,.int .i64 hi],.agg (Enc.enc x),.int .i64 (i:Int)] (.p (.agg (Enc.enc s)))∧s.name=OA 83 i∧DJ rk lo hi s=0∧nS s∧∃ a,a<6∧s.Ej=gi SE a
noncomputable def Uu (rk:List Hw) (lo hi:Int) (x:Pul) (i:Nat):Stp:=Classical.epsilon (h:=⟨default⟩) (a6z rk lo hi x i)
theorem Zm (rk:List Hw) (lo hi:Int) (x:Pul) (i:Nat) (hrk:zO rk) (hc:0≤lo∧lo≤hi∧hi≤127) (hx:x.Ok) (hi9:i≤9):a6z rk lo hi x i (Uu rk lo hi x i) :=
 Classical.epsilon_spec (b1r rk lo hi x i hrk hc hx hi9)
def ES (l:List G6):Nat→List Hw
 |0=>[]
 |k+1=>ES l k++[VI (gi l k) (k:Int)]
noncomputable def GV (rk:List Hw) (lo hi:Int) (l:List Pul):Nat→List Stp
 |0=>[]
 |k+1=>GV rk lo hi l k++[Uu rk lo hi (gi l k) k]
def E5 (b:Brd):Int:=36+(b.low:Int) % 12
def FI (b:Brd):Int:=E5 b+(b.keys:Int) % 9
noncomputable def rU (rk:List Hw) (b:Brd) (k:Nat):iW:=⟨OA 68 (k:Int),b.Xb,E5 b,FI b,GV rk (E5 b) (FI b) b.stops b.stops.length⟩
noncomputable def Hy (rk:List Hw) (l:List Brd):Nat→List iW
 |0=>[]
 |k+1=>Hy rk l k++[rU rk (gi l k) k]
def X5 (n:Nat) (c:Lnk) (k:Nat):lM:=⟨OA 67 (k:Int),(c.Wn:Int) % n,(c.tgt:Int) % n,if (c.Wn:Int) % n=(c.tgt:Int) % n∧c.shift.tmod 25=0 then 12 else c.shift.tmod 25,c.through⟩
def FH (n:Nat) (l:List Lnk):Nat→List lM
 |0=>[]
 |k+1=>FH n l k++[X5 n (gi l k) k]
theorem JF (l:List G6):∀ k,(ES l k).length=k
 |0=>rfl
 |k+1=>by simp [ES,JF l k]
theorem Ip (rk:List Hw) (lo hi:Int) (l:List Pul):∀ k,(GV rk lo hi l k).length=k
 |0=>rfl
 |k+1=>by simp [GV,Ip rk lo hi l k]
theorem NH (rk:List Hw) (l:List Brd):∀ k,(Hy rk l k).length=k
 |0=>rfl
 |k+1=>by simp [Hy,NH rk l k]
theorem QO (n:Nat) (l:List Lnk):∀ k,(FH n l k).length=k
 |0=>rfl
 |k+1=>by simp [FH,QO n l k]
noncomputable def lq (x:OPl):Ho:=⟨[79,114,103,97,110],ES x.ranks x.ranks.length,Hy (ES x.ranks x.ranks.length) x.Ag x.Ag.length,FH x.Ag.length x.links x.links.length⟩
theorem Ik {α:Type} [Inhabited α] {l:List α} {a:α} {i:Nat}:gi (l++[a]) i=if i<l.length then gi l i else if i=l.length then a else default:=by
 by_cases h:i<l.length
 ·rw [if_pos h];simp [gi,List.getElem?_append_left h]
 ·rw [if_neg h]
  by_cases h2:i=l.length
  ·rw [if_pos h2,h2];simp [gi]
  ·rw [if_neg h2];simp [gi,List.getElem?_append_right (show l.length≤i by omega),show ¬ i-l.length=0 by omega]
theorem VQ (l:List G6):∀ k i,i<k→gi (ES l k) i=VI (gi l i) (i:Int)
 |k+1,i,h=>by
  simp only [ES,Ik,JF];by_cases h1:i<k
  ·rw [if_pos h1];exact VQ l k i h1
  grind
theorem fK {l:List G6} (h:∀ i,i<l.length→(gi l i).Ok) (hl:0<l.length∧l.length≤3):zO (ES l l.length):=by
 refine ⟨by rw [JF];omega,fun i hi=>?_⟩;rw [JF] at hi;rw [VQ l _ i hi];exact ⟨b6r _ (h i hi) _ (by omega),(gi l i).Ej % 16,ao _ (by decide),rfl⟩
attribute [local irreducible] VI Uu
def c9p (a b c:PV):Vm.HB:=.box 27 [.p (.str (bs [79,114,103,97,110])),a,b,c]
def d0p:Vm.HB:=.box 27 [.p (.str ⟨#[]⟩),.p (.val (.slice none 0 0)),.p (.val (.slice none 0 0)),.p (.val (.slice none 0 0))]
theorem oL (x:OPl) (hx:x.Ok) (hf:aJ x):Ai env 70 [.agg x.enc] (.p (.agg (Enc.enc (lq x)))):=by
 obtain ⟨hf1,hf2,hf3,hf4⟩:=hf;have hR:=fK hx.ranks (by omega);refine Ai.enter (Ae (by decide)) Tryz.func70 rfl (by kernel_rfl) (by simp [Tryz.ntmps70]) ?_
 repeat' (first|refine Cb ?_|(apply Aa.build;rfl;rfl;rfl;rfl;rfl))
 refine Ad.ghost (Ar.EO 2 1 113 rfl rfl) ?_;refine Ad.D6 (fun k:Nat=>[(1,.ref 0 0),(2,.ref 1 0),(3,.ref 2 0),(4,.p (.int .i64 (k:Int)))]) (fun k=>[(3,.vec 113 (cells (ES x.ranks k)) (ES x.ranks k).length true),(2,.box 27 [.p (.str (bs [79,114,103,97,110])),.vec 3 (ES x.ranks k).length 0 (ES x.ranks k).length,.p (.val (.slice none 0 0)),.p (.val (.slice none 0 0))]),(1,.box 27 [.p (.str ⟨#[]⟩),.p (.val (.slice none 0 0)),.p (.val (.slice none 0 0)),.p (.val (.slice none 0 0))]),(0,.box 54 (x.enc.map .p))]) 4 (fun k=>k≤x.ranks.length) (fun k=>x.ranks.length-k) 0 (by omega) (by omega) ⟨by omega,?_,?_⟩ ?_
 ·exact Dy
 ·exact Ey
 intro k hk;have hl:=JF x.ranks k;have e1:ES x.ranks (k+1)=ES x.ranks k++[VI (gi x.ranks k) (k:Int)]:=rfl;have e2:(ES x.ranks (k+1)).length=(ES x.ranks k).length+1:=by rw [e1];simp
 by_cases hkl:k<x.ranks.length
 ·have hm:=a2b (gi x.ranks k) (hx.ranks k hkl) k ⟨by omega,by omega⟩
  repeat' (first|(apply Aa.fn;rfl;rfl;exact hm;intro _;rfl)|(apply Aa.Dk (a:=VI (gi x.ranks k) (k:Int));rfl;rfl;rfl;rfl;rfl;rfl;rfl;rfl;(intro _ h;cases h);rfl;rfl;rfl;decide;decide;(first|omega|(simp only [List.length_take,List.length_drop,List.length_append,List.length_singleton,List.length_cons,List.length_nil]<;>omega)))|(apply Aa.Ap;rfl;rfl;rfl;omega;rfl)|refine Cb ?_|(apply Aa.int;rfl;rfl;rfl)|(apply Aa.buildSlice;rfl;rfl;rfl;decide;rfl;rfl;rfl)|(apply Ad.Ac;rfl)|(intro _;try (exfalso;omega)))
  all_goals try (exfalso;omega)
  refine Aj.normal ⟨k+1,by omega,by omega,⟨by omega,?_,?_⟩⟩
  ·exact Dy
  ·rw [e2,e1];exact Ey
 obtain rfl:k=x.ranks.length:=by omega
 clear e1 e2 hl hkl hk;have eO:lq x=⟨[79,114,103,97,110],ES x.ranks x.ranks.length,Hy (ES x.ranks x.ranks.length) x.Ag x.Ag.length,FH x.Ag.length x.links x.links.length⟩:=rfl;rw [eO];generalize ES x.ranks x.ranks.length=R at *;clear eO
 repeat' (first|(refine Ad.at 6 ?_;refine Ad.ghost (Ar.trans (Ar.BI 2 1 rfl rfl rfl) (Ar.trans (Ar.EO 2 2 118 rfl rfl) (Ar.EO 2 3 236 rfl rfl))) ?_;first|apply Ad.Bf|apply Ad.Bl)|refine go0 ?_|apply Ad.Bf|(apply Ad.Ac;rfl)|(intro _;try (exfalso;omega)))
 all_goals try (exfalso;omega)
 refine Ad.D6 (fun k:Nat=>[(1,.ref 0 0),(2,.ref 1 0),(3,.ref 2 0),(5,.p (.int .i64 (k:Int)))]) (fun k=>[(5,.vec 236 [] 0 true),(4,.vec 118 (cells (Hy R x.Ag k)) (Hy R x.Ag k).length true),(2,.box 27 [.p (.str (bs [79,114,103,97,110])),.p (.lst 113 (cells R) R.length),.vec 4 (Hy R x.Ag k).length 0 (Hy R x.Ag k).length,.vec 5 0 0 0]),(1,.box 27 [.p (.str ⟨#[]⟩),.p (.val (.slice none 0 0)),.p (.val (.slice none 0 0)),.p (.val (.slice none 0 0))]),(0,.box 54 (x.enc.map .p))]) 6 (fun k=>k≤x.Ag.length) (fun k=>x.Ag.length-k) 0 (by omega) (by omega) ⟨by omega,?_,?_⟩ ?_
 ·exact Dy
 ·exact Ey
 intro k hk;have hl:=NH R x.Ag k;have e1:Hy R x.Ag (k+1)=Hy R x.Ag k++[rU R (gi x.Ag k) k]:=rfl;have e2:(Hy R x.Ag (k+1)).length=(Hy R x.Ag k).length+1:=by rw [e1];simp
 by_cases hkl:k<x.Ag.length
 ·obtain ⟨q1,q2,q3,q4⟩:=hx.Ag k hkl
  have q5:=hf4 k hkl;have eD:rU R (gi x.Ag k) k=⟨OA 68 (k:Int),(gi x.Ag k).Xb,E5 (gi x.Ag k),FI (gi x.Ag k),GV R (E5 (gi x.Ag k)) (FI (gi x.Ag k)) (gi x.Ag k).stops (gi x.Ag k).stops.length⟩:=rfl;have hlo:0≤E5 (gi x.Ag k)∧E5 (gi x.Ag k)≤FI (gi x.Ag k)∧FI (gi x.Ag k)≤127:=by unfold FI E5;omega
  have hst:(gi x.Ag k).stops.length≤3:=q5
  repeat' (first|(apply Aa.Ap;rfl;rfl;rfl;omega;rfl)|refine Cb ?_|(apply Aa.Il;rfl;rfl;rfl;rfl;rfl;omega)|(apply Aa.int;rfl;rfl;rfl)|(apply Aa.build;rfl;rfl;rfl;rfl;rfl)|(apply Aa.buildSlice;rfl;rfl;rfl;decide;rfl;rfl;rfl)|(apply Aa.X9;rfl;rfl;(first|omega|(simp only [List.length_take,List.length_drop,List.length_append,List.length_singleton,List.length_cons,List.length_nil]<;>omega)))|(apply Aa.Ea;rfl;rfl;rfl;rfl;omega)|(apply Aa.Nb;rfl;rfl;rfl;rfl;omega)|(apply Ad.Ac;rfl)|(intro _;try (exfalso;omega)))
  all_goals try (exfalso;omega)
  refine Ad.ghost (Ar.EO 8 4 229 rfl rfl) ?_;refine Ad.D6 (fun j:Nat=>[(1,.ref 0 0),(2,.ref 1 0),(3,.ref 2 0),(5,.p (.int .i64 (k:Int))),(6,.ref 6 0),(7,.p (.int .i64 (E5 (gi x.Ag k)))),(8,.ref 8 0),(9,.p (.int .i64 (j:Int)))]) (fun j=>[(9,.vec 229 (cells (GV R (E5 (gi x.Ag k)) (FI (gi x.Ag k)) (gi x.Ag k).stops j)) (GV R (E5 (gi x.Ag k)) (FI (gi x.Ag k)) (gi x.Ag k).stops j).length true),(8,.box 118 [.p (.str (bs (OA 68 (k:Int)))),.p (.bool (gi x.Ag k).Xb),.p (.int .i64 (E5 (gi x.Ag k))),.p (.int .i64 (FI (gi x.Ag k))),.vec 9 (GV R (E5 (gi x.Ag k)) (FI (gi x.Ag k)) (gi x.Ag k).stops j).length 0 (GV R (E5 (gi x.Ag k)) (FI (gi x.Ag k)) (gi x.Ag k).stops j).length]),(6,.box 211 ((Enc.enc (gi x.Ag k)).map .p)),(5,.vec 236 [] 0 true),(4,.vec 118 (cells (Hy R x.Ag k)) (Hy R x.Ag k).length true),(2,.box 27 [.p (.str (bs [79,114,103,97,110])),.p (.lst 113 (cells R) R.length),.vec 4 (Hy R x.Ag k).length 0 (Hy R x.Ag k).length,.vec 5 0 0 0]),(1,.box 27 [.p (.str ⟨#[]⟩),.p (.val (.slice none 0 0)),.p (.val (.slice none 0 0)),.p (.val (.slice none 0 0))]),(0,.box 54 (x.enc.map .p))]) 10 (fun j=>j≤(gi x.Ag k).stops.length) (fun j=>(gi x.Ag k).stops.length-j) 0 (by omega) (by omega) ⟨by omega,?_,?_⟩ ?_
  ·exact Dy
  ·exact Ey
  intro j hj;have jl:=Ip R (E5 (gi x.Ag k)) (FI (gi x.Ag k)) (gi x.Ag k).stops j;have j1:GV R (E5 (gi x.Ag k)) (FI (gi x.Ag k)) (gi x.Ag k).stops (j+1)=GV R (E5 (gi x.Ag k)) (FI (gi x.Ag k)) (gi x.Ag k).stops j++[Uu R (E5 (gi x.Ag k)) (FI (gi x.Ag k)) (gi (gi x.Ag k).stops j) j]:=rfl;have j2:(GV R (E5 (gi x.Ag k)) (FI (gi x.Ag k)) (gi x.Ag k).stops (j+1)).length=(GV R (E5 (gi x.Ag k)) (FI (gi x.Ag k)) (gi x.Ag k).stops j).length+1:=by rw [j1];simp
  by_cases hjl:j<(gi x.Ag k).stops.length
  ·have hp:=(Zm R (E5 (gi x.Ag k)) (FI (gi x.Ag k)) (gi (gi x.Ag k).stops j) j hR hlo (q4 j hjl) (by omega)).1
   repeat' (first|(apply Aa.fn;rfl;rfl;exact hp;intro _;rfl)|(apply Aa.Dk (a:=Uu R (E5 (gi x.Ag k)) (FI (gi x.Ag k)) (gi (gi x.Ag k).stops j) j);rfl;rfl;rfl;rfl;rfl;rfl;rfl;rfl;(intro _ h;cases h);rfl;rfl;rfl;decide;decide;(first|omega|(simp only [List.length_take,List.length_drop,List.length_append,List.length_singleton,List.length_cons,List.length_nil]<;>omega)))|(apply Aa.Ap;rfl;rfl;rfl;omega;rfl)|refine Cb ?_|(apply Aa.int;rfl;rfl;rfl)|(apply Aa.buildSlice;rfl;rfl;rfl;decide;rfl;rfl;rfl)|(apply Ad.Ac;rfl)|(intro _;try (exfalso;omega)))
   all_goals try (exfalso;omega)
   refine Aj.normal ⟨j+1,by omega,by omega,⟨by omega,?_,?_⟩⟩
   ·exact Dy
   ·rw [j2,j1];exact Ey
  obtain rfl:j=(gi x.Ag k).stops.length:=by omega
  repeat' (first|(refine Ad.atEnd 16 ?_;refine Ad.ghost (Ar.BI 8 4 rfl rfl rfl) ?_;first|apply Ad.region|apply Ad.Dq)|(apply Aa.Dk (a:=rU R (gi x.Ag k) k);rfl;rfl;rfl;rfl;rfl;rfl;rfl;rfl;(intro _ h;cases h);rfl;rfl;rfl;decide;decide;(first|omega|(simp only [List.length_take,List.length_drop,List.length_append,List.length_singleton,List.length_cons,List.length_nil]<;>omega)))|refine go1 ?_|apply Ad.Bf|apply Ad.region|(apply Aa.int;rfl;rfl;rfl)|(apply Aa.buildSlice;rfl;rfl;rfl;decide;rfl;rfl;rfl)|(apply Ad.Ac;rfl)|(intro _;try (exfalso;omega)))
  all_goals try (exfalso;omega)
  refine Aj.normal ⟨k+1,by omega,by omega,⟨by omega,?_,?_⟩⟩
  ·exact Dy
  ·rw [e2,e1];exact Ey
 obtain rfl:k=x.Ag.length:=by omega
 clear e1 e2 hl hkl hk;have hDl:=NH R x.Ag x.Ag.length;generalize Hy R x.Ag x.Ag.length=D at *
 repeat' (first|(refine Ad.at 17 ?_;refine Ad.ghost (Ar.BI 2 2 rfl rfl rfl) ?_;first|apply Ad.Bf|apply Ad.Bl)|refine go0 ?_|apply Ad.Bf|(apply Ad.Ac;rfl)|(intro _;try (exfalso;omega)))
 all_goals try (exfalso;omega)
 refine Ad.D6 (fun k:Nat=>[(1,.ref 0 0),(2,.ref 1 0),(3,.ref 2 0),(10,.p (.int .i64 (x.Ag.length:Int))),(11,.p (.int .i64 (k:Int)))]) (fun k=>[(5,.vec 236 (cells (FH x.Ag.length x.links k)) (FH x.Ag.length x.links k).length true),(2,.box 27 [.p (.str (bs [79,114,103,97,110])),.p (.lst 113 (cells R) R.length),.p (.lst 118 (cells D) D.length),.vec 5 (FH x.Ag.length x.links k).length 0 (FH x.Ag.length x.links k).length]),(1,.box 27 [.p (.str ⟨#[]⟩),.p (.val (.slice none 0 0)),.p (.val (.slice none 0 0)),.p (.val (.slice none 0 0))]),(0,.box 54 (x.enc.map .p))]) 6 (fun k=>k≤x.links.length) (fun k=>x.links.length-k) 0 (by omega) (by omega) ⟨by omega,?_,?_⟩ ?_
 ·exact Dy
 ·exact Ey
 intro k hk;have hl:=QO x.Ag.length x.links k;by_cases hkl:k<x.links.length
 ·obtain ⟨q1,q2,q3⟩:=hx.links k hkl
  have hne:((gi x.links k).Wn:Int) % x.Ag.length≥0:=bA _ (by omega);by_cases c1:((gi x.links k).Wn:Int) % x.Ag.length=((gi x.links k).tgt:Int) % x.Ag.length
  ·by_cases c2:(gi x.links k).shift.tmod 25=0
   ·have e1:FH x.Ag.length x.links (k+1)=FH x.Ag.length x.links k++[(⟨OA 67 (k:Int),((gi x.links k).Wn:Int) % x.Ag.length,((gi x.links k).tgt:Int) % x.Ag.length,12,(gi x.links k).through⟩:lM)]:=by
     show FH x.Ag.length x.links k++[X5 x.Ag.length (gi x.links k) k]=_;unfold X5;rw [if_pos ⟨c1,c2⟩]
    have e2:(FH x.Ag.length x.links (k+1)).length=(FH x.Ag.length x.links k).length+1:=by rw [e1];simp
    repeat' (first|(apply Aa.Dk (a:=(⟨OA 67 (k:Int),((gi x.links k).Wn:Int) % x.Ag.length,((gi x.links k).tgt:Int) % x.Ag.length,12,(gi x.links k).through⟩:lM));rfl;rfl;rfl;rfl;rfl;rfl;rfl;rfl;(intro _ h;cases h);rfl;rfl;rfl;decide;decide;(first|omega|(simp only [List.length_take,List.length_drop,List.length_append,List.length_singleton,List.length_cons,List.length_nil]<;>omega)))|(apply Aa.Ap;rfl;rfl;rfl;omega;rfl)|refine Cb ?_|(apply Ah.guard;rfl;rfl)|(apply Aa.Il;rfl;rfl;rfl;rfl;rfl;omega)|(apply Aa.int;rfl;rfl;rfl)|(apply Aa.build;rfl;rfl;rfl;rfl;rfl)|(apply Aa.buildSlice;rfl;rfl;rfl;decide;rfl;rfl;rfl)|(apply Aa.X9;rfl;rfl;(first|omega|(simp only [List.length_take,List.length_drop,List.length_append,List.length_singleton,List.length_cons,List.length_nil]<;>omega)))|(apply Aa.Ea;rfl;rfl;rfl;rfl;omega)|(apply Aa.Nb;rfl;rfl;rfl;rfl;omega)|(apply Ad.Ac;rfl)|(intro _;try (exfalso;omega)))
    all_goals try (exfalso;omega)
    refine Aj.normal ⟨k+1,by omega,by omega,⟨by omega,?_,?_⟩⟩
    ·exact Dy
    ·rw [e2,e1];exact Ey
   ·have e1:FH x.Ag.length x.links (k+1)=FH x.Ag.length x.links k++[(⟨OA 67 (k:Int),((gi x.links k).Wn:Int) % x.Ag.length,((gi x.links k).tgt:Int) % x.Ag.length,(gi x.links k).shift.tmod 25,(gi x.links k).through⟩:lM)]:=by
     show FH x.Ag.length x.links k++[X5 x.Ag.length (gi x.links k) k]=_;unfold X5;rw [if_neg (fun h=>c2 h.2)]
    have e2:(FH x.Ag.length x.links (k+1)).length=(FH x.Ag.length x.links k).length+1:=by rw [e1];simp
    repeat' (first|(apply Aa.Dk (a:=(⟨OA 67 (k:Int),((gi x.links k).Wn:Int) % x.Ag.length,((gi x.links k).tgt:Int) % x.Ag.length,(gi x.links k).shift.tmod 25,(gi x.links k).through⟩:lM));rfl;rfl;rfl;rfl;rfl;rfl;rfl;rfl;(intro _ h;cases h);rfl;rfl;rfl;decide;decide;(first|omega|(simp only [List.length_take,List.length_drop,List.length_append,List.length_singleton,List.length_cons,List.length_nil]<;>omega)))|(apply Aa.Ap;rfl;rfl;rfl;omega;rfl)|refine Cb ?_|(apply Ah.guard;rfl;rfl)|(apply Aa.Il;rfl;rfl;rfl;rfl;rfl;omega)|(apply Aa.int;rfl;rfl;rfl)|(apply Aa.build;rfl;rfl;rfl;rfl;rfl)|(apply Aa.buildSlice;rfl;rfl;rfl;decide;rfl;rfl;rfl)|(apply Aa.X9;rfl;rfl;(first|omega|(simp only [List.length_take,List.length_drop,List.length_append,List.length_singleton,List.length_cons,List.length_nil]<;>omega)))|(apply Aa.Ea;rfl;rfl;rfl;rfl;omega)|(apply Aa.Nb;rfl;rfl;rfl;rfl;omega)|(apply Ad.Ac;rfl)|(intro _;try (exfalso;omega)))
    all_goals try (exfalso;omega)
    refine Aj.normal ⟨k+1,by omega,by omega,⟨by omega,?_,?_⟩⟩
    ·exact Dy
    ·rw [e2,e1];exact Ey
  ·have e1:FH x.Ag.length x.links (k+1)=FH x.Ag.length x.links k++[(⟨OA 67 (k:Int),((gi x.links k).Wn:Int) % x.Ag.length,((gi x.links k).tgt:Int) % x.Ag.length,(gi x.links k).shift.tmod 25,(gi x.links k).through⟩:lM)]:=by
    show FH x.Ag.length x.links k++[X5 x.Ag.length (gi x.links k) k]=_;unfold X5;rw [if_neg (fun h=>c1 h.1)]
   have e2:(FH x.Ag.length x.links (k+1)).length=(FH x.Ag.length x.links k).length+1:=by rw [e1];simp
   repeat' (first|(apply Aa.Dk (a:=(⟨OA 67 (k:Int),((gi x.links k).Wn:Int) % x.Ag.length,((gi x.links k).tgt:Int) % x.Ag.length,(gi x.links k).shift.tmod 25,(gi x.links k).through⟩:lM));rfl;rfl;rfl;rfl;rfl;rfl;rfl;rfl;(intro _ h;cases h);rfl;rfl;rfl;decide;decide;(first|omega|(simp only [List.length_take,List.length_drop,List.length_append,List.length_singleton,List.length_cons,List.length_nil]<;>omega)))|(apply Aa.Ap;rfl;rfl;rfl;omega;rfl)|refine Cb ?_|(apply Ah.guard;rfl;rfl)|(apply Aa.Il;rfl;rfl;rfl;rfl;rfl;omega)|(apply Aa.int;rfl;rfl;rfl)|(apply Aa.build;rfl;rfl;rfl;rfl;rfl)|(apply Aa.buildSlice;rfl;rfl;rfl;decide;rfl;rfl;rfl)|(apply Aa.X9;rfl;rfl;(first|omega|(simp only [List.length_take,List.length_drop,List.length_append,List.length_singleton,List.length_cons,List.length_nil]<;>omega)))|(apply Aa.Ea;rfl;rfl;rfl;rfl;omega)|(apply Aa.Nb;rfl;rfl;rfl;rfl;omega)|(apply Ad.Ak;rfl)|(apply Ad.Ac;rfl)|(intro _;try (exfalso;omega)))
   all_goals try (exfalso;omega)
   refine Aj.normal ⟨k+1,by omega,by omega,⟨by omega,?_,?_⟩⟩
   ·exact Dy
   ·rw [e2,e1];exact Ey
 obtain rfl:k=x.links.length:=by omega
 repeat' (first|(refine Ad.at 26 ?_;refine Ad.ghost (Ar.BI 2 3 rfl rfl rfl) ?_;first|apply Ad.Bf|apply Ad.Bl)|refine go0 ?_|apply Ad.Bf|(apply Ad.Ac;rfl)|(intro _;try (exfalso;omega)))
 all_goals first|(exfalso;omega)|(refine Done.rt rfl rfl ⟨?_,rfl,rfl⟩;rfl)
attribute [local irreducible] BR A8 AV
theorem sD (rk:List Hw) (l:List Brd):∀ k i,i<k→gi (Hy rk l k) i=rU rk (gi l i) i
 |k+1,i,h=>by
  simp only [Hy,Ik,NH];by_cases h1:i<k
  ·rw [if_pos h1];exact sD rk l k i h1
  grind
theorem iM (rk:List Hw) (lo hi:Int) (l:List Pul):∀ k i,i<k→gi (GV rk lo hi l k) i=Uu rk lo hi (gi l i) i
 |k+1,i,h=>by
  simp only [GV,Ik,Ip];by_cases h1:i<k
  ·rw [if_pos h1];exact iM rk lo hi l k i h1
  grind
theorem pR (n:Nat) (l:List Lnk):∀ k i,i<k→gi (FH n l k) i=X5 n (gi l i) i
 |k+1,i,h=>by
  simp only [FH,Ik,QO];by_cases h1:i<k
  ·rw [if_pos h1];exact pR n l k i h1
  grind
theorem a7m (b:Brd):0≤E5 b∧E5 b≤FI b∧FI b≤127:=by unfold FI E5;omega
structure jJ (o:Ho):Prop where
 sm:LQ o
 ranks:1≤o.ranks.length∧o.ranks.length≤3
 Ag:1≤o.Ag.length∧o.Ag.length≤3
 Io:o.Io.length≤3
 stops:∀ i,i<o.Ag.length→(gi o.Ag i).stops.length≤3
 rk:zO o.ranks
 dv:∀ i,i<o.Ag.length→0≤(gi o.Ag i).lo∧(gi o.Ag i).lo≤(gi o.Ag i).hi∧(gi o.Ag i).hi≤127
 dn:∀ i,i<o.Ag.length→(gi o.Ag i).name=OA 68 i
 st:∀ i,i<o.Ag.length→∀ j,j<(gi o.Ag i).stops.length→DJ o.ranks (gi o.Ag i).lo (gi o.Ag i).hi (gi (gi o.Ag i).stops j)=0∧(gi (gi o.Ag i).stops j).name=OA 83 j∧∃ a,a<6∧(gi (gi o.Ag i).stops j).Ej=gi SE a
 cp:∀ i,i<o.Io.length→a9a o.Ag.length (gi o.Io i)∧(gi o.Io i).name=OA 67 i
 rn:∀ i,i<o.ranks.length→(gi o.ranks i).name=OA 82 i
 nm:o.name=[79,114,103,97,110]
theorem b0p (n:Nat) (c:Lnk) (k:Nat) (hn:1≤n) (hc:c.Ok) (hk:k<10):a9a n (X5 n c k):=by
 obtain ⟨c1,c2,c3⟩:=hc;have m1:=bA (c.Wn:Int) (show (n:Int)≠0 by omega);have m2:=bx (c.Wn:Int) (show 0<(n:Int) by omega);have m3:=bA (c.tgt:Int) (show (n:Int)≠0 by omega);have m4:=bx (c.tgt:Int) (show 0<(n:Int) by omega);refine ⟨vO (by decide) hk,⟨m1,m2⟩,⟨m3,m4⟩,?_,?_⟩
 ·have e:(X5 n c k).shift=if (c.Wn:Int) % n=(c.tgt:Int) % n∧c.shift.tmod 25=0 then 12 else c.shift.tmod 25:=rfl
  grind
 ·show ¬ ((c.Wn:Int) % n=(c.tgt:Int) % n∧(if (c.Wn:Int) % n=(c.tgt:Int) % n∧c.shift.tmod 25=0 then (12:Int) else c.shift.tmod 25)=0)
  omega
theorem b7h (x:G6) (i:Int):fG (VI x i):=by
 have h:=b3d x i;have w:=a6t x i;unfold VI at h w ⊢;refine ⟨by simp,?_,by omega⟩;have:(gi UZ (x.JY % 3)).length≤5:=b3o (P:=fun l:List UInt8=>l.length≤5) (by decide) (show x.JY % 3<UZ.length from ao _ (by decide));grind
theorem a8u (x:G6) (i:Nat) (hi:i<10):(VI x i).name=OA 82 i:=by
 unfold VI OA;grind
theorem a5x (x:OPl) (hx:x.Ok) (hf:aJ x):jJ (lq x):=by
 obtain ⟨hf1,hf2,hf3,hf4⟩:=hf;have hR:=fK hx.ranks (by omega);have e1:(lq x).ranks=ES x.ranks x.ranks.length:=rfl;have e2:(lq x).Ag=Hy (ES x.ranks x.ranks.length) x.Ag x.Ag.length:=rfl;have e3:(lq x).Io=FH x.Ag.length x.links x.links.length:=rfl;have e4:(lq x).name=[79,114,103,97,110]:=rfl;have rn:∀ i,i<x.ranks.length→gi (ES x.ranks x.ranks.length) i=VI (gi x.ranks i) (i:Int):=VQ _ _;generalize hRR:ES x.ranks x.ranks.length=R at *;have hRl:R.length=x.ranks.length:=by rw [← hRR,JF]
 have dl:=NH R x.Ag x.Ag.length;have cl:=QO x.Ag.length x.links x.links.length;have dg:∀ i,i<x.Ag.length→gi (Hy R x.Ag x.Ag.length) i=rU R (gi x.Ag i) i:=sD _ _ _;have cg:∀ i,i<x.links.length→gi (FH x.Ag.length x.links x.links.length) i=X5 x.Ag.length (gi x.links i) i:=pR _ _ _;have ds:∀ b k,(rU R b k).stops=GV R (E5 b) (FI b) b.stops b.stops.length:=fun _ _=>rfl
 have sp:∀ i,i<x.Ag.length→∀ j,j<(gi x.Ag i).stops.length→gi (GV R (E5 (gi x.Ag i)) (FI (gi x.Ag i)) (gi x.Ag i).stops (gi x.Ag i).stops.length) j=Uu R (E5 (gi x.Ag i)) (FI (gi x.Ag i)) (gi (gi x.Ag i).stops j) j∧a6z R (E5 (gi x.Ag i)) (FI (gi x.Ag i)) (gi (gi x.Ag i).stops j) j (Uu R (E5 (gi x.Ag i)) (FI (gi x.Ag i)) (gi (gi x.Ag i).stops j) j):=fun i hi j hj =>
  ⟨iM _ _ _ _ _ _ hj,Zm R _ _ _ j hR (a7m _) ((hx.Ag i hi).all j hj) (by have:=hf4 i hi;omega)⟩
 refine ⟨⟨by rw [e4];simp,by rw [e1];omega,by rw [e2];omega,by rw [e3];omega,fun i hi=>?_,fun i hi=>?_,fun i hi=>?_⟩,by rw [e1];omega,by rw [e2];omega,by rw [e3];omega,fun i hi=>?_,by rw [e1];exact hR,fun i hi=>?_,fun i hi=>?_,fun i hi j hj=>?_,fun i hi=>?_,fun i hi=>?_,e4⟩
 ·rw [e1] at hi ⊢;rw [rn i (by omega)];exact b7h _ _
 ·rw [e2] at hi ⊢;rw [dg i (by omega)]
  refine ⟨by simp [rU,OA],by rw [ds,Ip];have:=hf4 i (by omega);omega,fun j hj=>?_⟩;rw [ds,Ip] at hj;rw [ds,(sp i (by omega) j hj).1];exact (sp i (by omega) j hj).2.2.2.2.1
 ·rw [e3] at hi ⊢;rw [cg i (by omega)];simp [X5,OA]
 ·rw [e2] at hi ⊢;rw [dg i (by omega),ds,Ip];exact hf4 i (by omega)
 ·rw [e2] at hi ⊢;rw [dg i (by omega)];exact a7m _
 ·rw [e2] at hi ⊢;rw [dg i (by omega)];rfl
 ·rw [e2] at hi hj ⊢;rw [dg i (by omega),ds,Ip] at hj;rw [e1,dg i (by omega),ds,(sp i (by omega) j hj).1]
  exact ⟨(sp i (by omega) j hj).2.2.2.1,(sp i (by omega) j hj).2.2.1,(sp i (by omega) j hj).2.2.2.2.2⟩
 ·rw [e3] at hi ⊢;rw [e2,dl,cg i (by omega)]
  exact ⟨b0p _ _ _ (by omega) (hx.links i (by omega)) (by omega),rfl⟩
 ·rw [e1] at hi ⊢;rw [rn i (by omega)];exact a8u _ _ (by omega)
theorem b6z:DV [79,114,103,97,110]:=by
 refine ⟨by decide,by decide,by decide,fun i h1 h2=>?_⟩;have:i=1∨i=2∨i=3∨i=4:=by simp at h2;omega
 rcases this with rfl|rfl|rfl|rfl<;>exact .inl (by decide)
theorem jJ.ok {o:Ho} (h:jJ o):V6 o=0:=by
 have r1:=h.ranks;have d1:=h.Ag;have c1:=h.Io;unfold V6;rw [if_neg (fun h'=>h' (h.nm▸b6z)),if_neg (by omega)];have hr:QA o.ranks 0=0:=Vo (fun i hi=>⟨(h.rk.ok i hi).1,jE (c:=82) (by omega) h.rn hi⟩) _ 0 rfl;rw [if_neg (fun h'=>h' hr),if_neg (by omega),if_neg (by omega)];have hd:GK o.ranks o.Ag 0=0:=TU (fun i hi=>by
  have s1:=h.stops i hi;refine ⟨by rw [h.dn i hi];exact vO (by decide) (by omega),jE (c:=68) (by omega) h.dn hi,?_⟩;unfold Dx;rw [Vy (h.dv i hi),if_neg (fun h=>h rfl),if_neg (by omega)];exact SX (fun j hj=>⟨(h.st i hi j hj).1,jE (c:=83) (by omega) (fun a ha=>(h.st i hi a ha).2.1) hj⟩) _ 0 rfl) _ 0 rfl
 rw [if_neg (fun h'=>h' hd)];unfold DX;rw [if_neg (by grind)];have hc:TD (o.Ag.map fun d=>⟨d.lo,d.hi⟩) 0=0:=V8 (fun i hi=>by
  rw [bc] at hi;have e:gi (o.Ag.map fun d=>(⟨d.lo,d.hi⟩:lC)) i=⟨(gi o.Ag i).lo,(gi o.Ag i).hi⟩:=by simp [gi,List.getElem?_eq_getElem hi]
  rw [e];exact Vy (h.dv i hi)) _ 0 rfl
 rw [if_neg (fun h'=>h' hc),bc];exact SL (fun i hi=>⟨(h.cp i hi).1,jE (c:=67) (by omega) (fun a ha=>(h.cp a ha).2) hi⟩) _ 0 rfl
end Go.Proofs.YtnjkoebfgcbbdaaGreatDoor
namespace Go.Proofs.YtnjkoebfgcbbdaaGreatDoor
open Go Go.Am Go.Vm
attribute [local irreducible] Aa Ah Af Ad Az Ai Ba Bq Bd Aj Vm.Done Bg AB
attribute [local irreducible] BR A8
theorem Za (lo hi:Int):Ai env 110 [.agg [.int .i64 lo,.int .i64 hi]] (.p (.int .i64 (XY lo hi))):=by
 unfold XY;refine Ai.enter (Ae (by decide)) Tryz.func110 rfl (by kernel_rfl) (by simp) ?_
 repeat' (first|refine go2 ?_|(apply Ah.guard;rfl;rfl)|(apply Ad.cond_true;rfl)|(apply Ad.Aq;rfl)|(intro _))
 all_goals first
  |(rw [if_pos (by omega)];(refine Done.rt rfl rfl ⟨?_,rfl,rfl⟩;try rfl);done)
  |(rw [if_neg (by omega),if_pos (by omega)];(refine Done.rt rfl rfl ⟨?_,rfl,rfl⟩;try rfl);done)
  |(rw [if_neg (by omega),if_neg (by omega)];(refine Done.rt rfl rfl ⟨?_,rfl,rfl⟩;try rfl);done)
theorem mQ:bJ Tryz.prog 270=true:=by kernel_rfl
theorem b7q (x y:tH):Vm.l9 Tryz.prog 270 (Enc.enc x) (Enc.enc y)=some (decide (x=y)):=by
 show some (decide (x.rank=y.rank)&&(decide (x.shift=y.shift)&&true))=_;by_cases h:x=y
 ·grind
 ·have:¬ (x.rank=y.rank∧x.shift=y.shift):=fun h'=>h (by cases x;simp_all)
  by_cases h1:x.rank=y.rank<;>simp_all
theorem ZQ {α:Type} [Inhabited α] {a:α} {l:List α}:a∈l↔∃ i,i<l.length∧gi l i=a:=by
 constructor
 ·intro h
  obtain ⟨i,hi,e⟩:=dq h;exact ⟨i,hi,by simp [gi,List.getElem?_eq_getElem hi,e]⟩
 ·rintro ⟨i,hi,e⟩
  rw [← e];simp only [gi,List.getElem?_eq_getElem hi,Option.getD_some];simp
theorem Yx {α:Type} [Inhabited α] {l:List α} {i k:Nat} (h:i<k):gi (l.take k) i=gi l i:=by simp [gi,List.getElem?_take,h]
theorem ED {α:Type} [Inhabited α] {l:List α} {k:Nat} (hk:k<l.length):l.take (k+1)=l.take k++[gi l k]:=by
 simp [gi,List.getElem?_eq_getElem hk]
theorem b1b {L:Vm.Frame} {H:Vm.Heap} {nx:Nat} {Q:PV→Vm.Heap→Nat→Prop} {dst:Option Tmp} {ty:TypeId} {pos:String} {af:Array Edge} {gd:Option (Nat×Bool)} {fo:Operand} {args:Array Operand} {aT:Array TypeId} {fs cs xs:List PV} {c:Code}
 (hf:AU env.Γ L fo=some (.clo 206 fs cs)) (ha:evs env.Γ L args.toList=some xs) (hb:Tryz.f206.body=some c) (hn:(fs++xs++cs).length≤Tryz.f206.ntmps)
 (h:Ad env nx c (CG 0 (fs++xs++cs)) H nx (AB env.P Tryz.f206.results.toList Q)):Aa env true ⟨dst,.call { callee:=.value fo,args:=args,argTypes:=aT },ty,pos,af,gd⟩ L H nx Q:=by
 have h0:(match Tryz.f206.body with|some c=>IL env.G Tryz.f206 c|none=>false)=true:=by kernel_rfl
 rw [hb] at h0;exact Aa.inline rfl hf ha (Ae (by decide)) Tryz.func206 hb h0 hn h
theorem cO (l:List tH) (d:tH) (hl:l.length<1000000):Ai env 199 [.lst 270 (cells l) l.length,.agg (Enc.enc d)] (.p (.bool (decide (d∈l)))):=by
 refine Ai.enter (Ae (by decide)) Tryz.func199 rfl (by kernel_rfl) (by simp) ?_
 repeat' (first|(apply b1b;rfl;rfl;rfl;exact le_dec rfl)|refine Cb ?_|fail)
 refine Ad.D6 (fun k:Nat=>[(0,lst 270 l),(3,.ref 1 0),(7,.p (.int .i64 (l.length:Int))),(8,.p (.int .i64 (k:Int)))]) (fun _=>[(1,.box 270 ((Enc.enc d).map .p)),(0,.box 270 ((Enc.enc d).map .p))]) 2 (fun k=>k≤l.length∧∀ i,i<k→d≠gi l i) (fun k=>l.length-k) 0 (by omega) ⟨by omega,fun i hi=>by omega⟩ ⟨by omega,?_,?_⟩ ?_
 ·exact Dy
 ·exact Ey
 rintro k ⟨hk,hok⟩;have he:=b7q d (gi l k);by_cases hd:d=gi l k
 ·rw [decide_eq_true hd] at he
  repeat' (first|(apply Aa.b3z;rfl;rfl;exact mQ;exact he)|(apply Aa.Ap;rfl;rfl;rfl;omega;rfl)|refine Cb ?_|(apply AB.ret;rfl)|(apply Aa.int;rfl;rfl;rfl)|(apply Ad.Ac;rfl)|(apply Ad.cond_true;rfl)|(intro _;try (exfalso;omega)))
  ·rename_i a1
   rw [decide_eq_true (ZQ.2 ⟨k,by omega,hd.symm⟩)];refine Done.rt rfl rfl ⟨?_,rfl,rfl⟩;rfl
  ·rename_i a1
   rw [decide_eq_false (fun h=>by obtain ⟨i,h1,h2⟩:=ZQ.1 h;grind)]
   (refine Done.rt rfl rfl ⟨?_,rfl,rfl⟩;try rfl)
 ·rw [decide_eq_false hd] at he
  repeat' (first|(apply Aa.b3z;rfl;rfl;exact mQ;exact he)|(apply Aa.Ap;rfl;rfl;rfl;omega;rfl)|refine Cb ?_|(apply AB.ret;rfl)|(apply Aa.int;rfl;rfl;rfl)|(apply Ad.Ac;rfl)|(apply Ad.cond_false;rfl)|(intro _;try (exfalso;omega)))
  ·rename_i a1
   refine Aj.normal ⟨k+1,⟨by omega,fun i hi=>?_⟩,by omega,⟨by omega,?_,?_⟩⟩
   ·grind
   ·exact Dy
   ·exact Ey
  ·rename_i a1
   rw [decide_eq_false (fun h=>by obtain ⟨i,h1,h2⟩:=ZQ.1 h;exact hok i (by omega) h2.symm)]
   (refine Done.rt rfl rfl ⟨?_,rfl,rfl⟩;try rfl)
def a3f (rk:List Hw) (lo hi:Int):List FV:=[.lst 113 (cells rk) rk.length,.int .i64 lo,.int .i64 hi]
theorem xW (rk:List Hw) (lo hi:Int) (l:List tH) (hl:l.length<1000000) (hr:rk.length<1000000):Ai env 182 [.agg (a3f rk lo hi),.lst 270 (cells l) l.length] (.p (.int .i64 (ay rk.length l))):=by
 unfold ay;refine Ai.enter (Ae (by decide)) Tryz.func182 rfl (by kernel_rfl) (by simp [Tryz.ntmps182]) ?_
 repeat' (first|refine go2 ?_|(apply Ad.Ac;rfl)|(intro _;try (exfalso;omega)))
 ·rw [if_pos (by omega)];(refine Done.rt rfl rfl ⟨?_,rfl,rfl⟩;try rfl)
 rw [if_neg (by omega)];refine Ad.D6 (fun k:Nat=>[(1,lst 270 l),(2,.ref 0 0),(10,lst 270 l),(11,.p (.int .i64 (l.length:Int))),(12,.p (.int .i64 (k:Int)))]) (fun _=>[(0,.box 277 ((a3f rk lo hi).map .p))]) 1 (fun k=>k≤l.length∧Si rk.length l k=Si rk.length l 0) (fun k=>l.length-k) 0 (by omega) ⟨by omega,rfl⟩ ⟨by omega,?_,?_⟩ ?_
 ·exact Dy
 ·exact Ey
 rintro k ⟨hk,hE⟩;have hc:=cO (l.take k) (gi l k) (by rw [aw];omega);rw [aw,ck (by omega)] at hc;rw [← hE];by_cases hkl:k<l.length
 ·rw [Si,if_pos hkl]
  generalize hg:decide (gi l k∈l.take k)=g at *;cases g;all_goals
   repeat' (first|(apply Aa.fn;rfl;rfl;exact hc;intro _;rfl)|(apply Aa.Ap;rfl;rfl;rfl;omega;rfl)|refine Cb ?_|apply Ad.J9|(apply Ah.guard;rfl;rfl)|(apply Aa.sliceTo;rfl;rfl;rfl;rfl;rfl;rfl;omega)|(apply Aa.int;rfl;rfl;rfl)|(apply Ad.Ac;rfl)|(apply Ad.cond_true;rfl)|(apply Ad.cond_false;rfl)|(apply Ad.Aq;rfl)|(intro _;try (exfalso;omega)))
  all_goals try (exfalso;omega)
  all_goals first
   |(rw [if_pos (by omega)];(refine Done.rt rfl rfl ⟨?_,rfl,rfl⟩;try rfl);done)
   |(rw [if_neg (by omega),if_pos (by omega)];(refine Done.rt rfl rfl ⟨?_,rfl,rfl⟩;try rfl);done)
   |(rw [if_neg (by omega),if_neg (by omega),if_pos (of_decide_eq_true hg)];(refine Done.rt rfl rfl ⟨?_,rfl,rfl⟩;try rfl);done)
   |(rw [if_neg (by omega),if_neg (by omega),if_neg (of_decide_eq_false hg)]
     refine Aj.normal ⟨k+1,⟨by omega,?_⟩,by omega,⟨by omega,?_,?_⟩⟩
     ·first|rfl|(refine ed ?_ hE;symm;(conv=>lhs;rw [Si]);rw [if_pos hkl,if_neg (by omega),if_neg (by omega),if_neg (of_decide_eq_false hg)])
     ·exact Dy
     ·exact Ey)
 ·rw [Si,if_neg hkl]
  repeat' (first|refine go2 ?_|(apply Ad.Ac;rfl)|(intro _;try (exfalso;omega)))
  all_goals first|(exfalso;omega)|(refine Done.rt rfl rfl ⟨?_,rfl,rfl⟩;try rfl)
theorem uF (rk:List Hw) (lo hi:Int) (hr:rk.length<1000000) (hs:∀ i,i<rk.length→fG (gi rk i)):Ai env 181 [.agg (a3f rk lo hi)] (.p (.int .i64 (qI rk lo hi))):=by
 have hcm:=Za lo hi;unfold qI;refine Ai.enter (Ae (by decide)) Tryz.func181 rfl (by kernel_rfl) (by simp) ?_
 repeat' (first|refine go2 ?_|(apply Ad.Ac;rfl)|(intro _;try (exfalso;omega)))
 ·rw [if_pos (by omega)];(refine Done.rt rfl rfl ⟨?_,rfl,rfl⟩;try rfl)
 rw [if_neg (by omega)];refine Ad.D6 (fun k:Nat=>[(1,.ref 0 0),(11,lst 113 rk),(12,.p (.int .i64 (rk.length:Int))),(13,.p (.int .i64 (k:Int)))]) (fun _=>[(0,.box 277 ((a3f rk lo hi).map .p))]) 1 (fun k=>k≤rk.length∧bW rk k=bW rk 0) (fun k=>rk.length-k) 0 (by omega) ⟨by omega,rfl⟩ ⟨by omega,?_,?_⟩ ?_
 ·exact Dy
 ·exact Ey
 rintro k ⟨hk,hE⟩;rw [← hE];by_cases hkl:k<rk.length
 ·have hsm:=(hs k hkl).len
  have hc:=XK (gi rk k) hsm.1 hsm.2.1 hsm.2.2;rw [bW,if_pos hkl];by_cases h0:BR (gi rk k)=0
  ·rw [h0] at hc ⊢
   rw [if_neg (by decide)]
   repeat' (first|(apply Aa.fn;rfl;rfl;exact hc;intro _;rfl)|(apply Aa.Ap;rfl;rfl;rfl;omega;rfl)|refine Cb ?_|(apply Aa.int;rfl;rfl;rfl)|(apply Ad.Ac;rfl)|(apply Ad.cond_false;rfl)|(intro _;try (exfalso;omega)))
   all_goals try (exfalso;omega)
   refine Aj.normal ⟨k+1,⟨by omega,?_⟩,by omega,⟨by omega,?_,?_⟩⟩
   ·rfl
   ·exact Dy
   ·exact Ey
  ·rw [if_pos h0,if_pos h0]
   repeat' (first|(apply Aa.fn;rfl;rfl;exact hc;intro _;rfl)|(apply Aa.Ap;rfl;rfl;rfl;omega;rfl)|refine Cb ?_|(apply Aa.int;rfl;rfl;rfl)|(apply Ad.Ac;rfl)|(apply Ad.Aq;rfl)|(intro _;try (exfalso;omega)))
   all_goals first|(exfalso;omega)|(refine Done.rt rfl rfl ⟨?_,rfl,rfl⟩;try rfl)
 ·rw [bW,if_neg hkl,if_neg (by decide)]
  repeat' (first|(apply Aa.fn;rfl;rfl;exact hcm;intro _;rfl)|refine Cb ?_|(apply Aa.int;rfl;rfl;rfl)|(apply Ad.Ac;rfl)|(intro _;try (exfalso;omega)))
  all_goals first|(exfalso;omega)|(refine Done.rt rfl rfl ⟨?_,rfl,rfl⟩;try rfl)
theorem a2h (rk:List Hw) (lo hi:Int) (s:Stp) (hr:rk.length<1000000) (hs:∀ i,i<rk.length→fG (gi rk i)) (hS:nS s):Ai env 157 [.agg (a3f rk lo hi),.agg (Enc.enc s)] (.p (.int .i64 (DJ rk lo hi s))):=by
 obtain ⟨q1,q2,q3⟩:=hS;have hp:=uF rk lo hi hr hs;have hn:=IJ s.name (by omega);have hf:=MO s.Ej;unfold DJ b6l;refine Ai.enter (Ae (by decide)) Tryz.func157 rfl (by kernel_rfl) (by simp [Tryz.ntmps157]) ?_;by_cases h0:qI rk lo hi=0
 case neg =>
  rw [if_pos h0]
  repeat' (first|(apply Aa.fn;rfl;rfl;exact hp;intro _;rfl)|refine Cb ?_|(apply Aa.int;rfl;rfl;rfl)|(apply Ad.Ac;rfl)|(intro _;try (exfalso;omega)))
  all_goals first|(exfalso;omega)|(refine Done.rt rfl rfl ⟨?_,rfl,rfl⟩;try rfl)
 rw [h0] at hp ⊢;rw [if_neg (by decide)];by_cases h1:DV s.name
 case neg =>
  rw [if_pos h1];rw [decide_eq_false h1] at hn
  repeat' (first|(apply Aa.fn;rfl;rfl;exact hp;intro _;rfl)|(apply Aa.fn;rfl;rfl;exact hn;intro _;rfl)|refine Cb ?_|(apply Aa.int;rfl;rfl;rfl)|(apply Ad.AX;rfl)|(apply Ad.Ak;rfl))
  all_goals first|contradiction|(exfalso;omega)|(refine Done.rt rfl rfl ⟨?_,rfl,rfl⟩;try rfl)
 rw [if_neg (fun h=>h h1)];rw [decide_eq_true h1] at hn;by_cases h2:RJ s.Ej=0
 case neg =>
  rw [if_pos h2]
  repeat' (first|(apply Aa.fn;rfl;rfl;exact hp;intro _;rfl)|(apply Aa.fn;rfl;rfl;exact hn;intro _;rfl)|(apply Aa.fn;rfl;rfl;exact hf;intro _;rfl)|refine Cb ?_|(apply Aa.int;rfl;rfl;rfl)|(apply Ad.Ak;rfl)|(apply Ad.Ac;rfl)|(intro _;try (exfalso;omega)))
  all_goals first|contradiction|(exfalso;omega)|(refine Done.rt rfl rfl ⟨?_,rfl,rfl⟩;try rfl)
 rw [if_neg (fun h=>h h2)];rw [h2] at hf
 repeat' (first|(apply Aa.fn;rfl;rfl;exact hp;intro _;rfl)|(apply Aa.fn;rfl;rfl;exact hn;intro _;rfl)|(apply Aa.fn;rfl;rfl;exact hf;intro _;rfl)|refine Cb ?_|(apply Aa.int;rfl;rfl;rfl)|(apply Ad.Ak;rfl)|(apply Ad.Aq;rfl)|(intro _;try (exfalso;omega)))
 all_goals try contradiction
 all_goals try (exfalso;omega)
 ·rw [if_pos (by omega)];(refine Done.rt rfl rfl ⟨?_,rfl,rfl⟩;try rfl)
 ·rw [if_neg (by omega),if_pos (by omega)];(refine Done.rt rfl rfl ⟨?_,rfl,rfl⟩;try rfl)
 rw [if_neg (by omega),if_neg (by omega)];refine Ad.D6 (fun k:Nat=>[(2,.ref 0 0),(3,.ref 1 0),(36,lst 273 s.IW),(37,.p (.int .i64 (s.IW.length:Int))),(38,.p (.int .i64 (k:Int)))]) (fun _=>[(1,.box 229 ((Enc.enc s).map .p)),(0,.box 277 ((a3f rk lo hi).map .p))]) 2 (fun k=>k≤s.IW.length∧NU rk.length lo hi s.IW k=NU rk.length lo hi s.IW 0) (fun k=>s.IW.length-k) 0 (by omega) ⟨by omega,rfl⟩ ⟨by omega,?_,?_⟩ ?_
 ·exact Dy
 ·exact Ey
 rintro k ⟨hk,hE⟩;rw [← hE];by_cases hkl:k<s.IW.length
 ·have hsm:=(q3 k hkl).draws
  have hd:=xW rk lo hi (gi s.IW k).draws hsm hr;rw [NU,if_pos hkl];have hk1:((k:Int)-1).toNat=k-1:=by omega
  have hkc:0<k→((k-1:Nat):Int)=(k:Int)-1:=fun h=>by omega
  generalize hD:ay rk.length (gi s.IW k).draws=D at *
  repeat' (first|(apply Aa.fn;rfl;rfl;exact hd;intro _;rfl)|(apply Aa.Ap;rfl;rfl;rfl;omega;rfl)|(apply Aa.a7v;rfl;rfl;rfl;omega;omega;rfl)|refine Cb ?_|(apply Ah.guard;rfl;rfl)|(apply Af.guard;rfl;rfl)|(apply Af.Zu;rfl;rfl)|(apply Aa.int;rfl;rfl;rfl)|(apply Aa.b1x;rfl;rfl)|(apply Aa.b6i;rfl;rfl)|(apply Ad.Ac;rfl)|(apply Ad.cond_true;rfl)|(apply Ad.cond_false;rfl)|(apply Ad.Aq;rfl)|(intro _;try (exfalso;omega)))
  all_goals try (exfalso;omega)
  all_goals first
   |(rw [if_pos (by omega)];(refine Done.rt rfl rfl ⟨?_,rfl,rfl⟩;try rfl);done)
   |(rw [if_neg (by omega),if_pos (by omega)];(refine Done.rt rfl rfl ⟨?_,rfl,rfl⟩;try rfl);done)
   |(rw [if_neg (by omega),if_neg (by omega),if_pos (by omega)];(refine Done.rt rfl rfl ⟨?_,rfl,rfl⟩;try rfl);done)
   |(rw [if_neg (by omega),if_neg (by omega),if_neg (by omega)]
     refine Aj.normal ⟨k+1,⟨by omega,?_⟩,by omega,⟨by omega,?_,?_⟩⟩
     ·first|rfl|(refine ed ?_ hE;symm;(conv=>lhs;rw [NU]);rw [if_pos hkl,if_neg (by omega),if_neg (by omega),if_neg (by omega)])
     ·exact Dy
     ·exact Ey)
 ·rw [NU,if_neg hkl]
  repeat' (first|refine go2 ?_|(apply Ad.Ac;rfl)|(intro _;try (exfalso;omega)))
  all_goals first|(exfalso;omega)|(refine Done.rt rfl rfl ⟨?_,rfl,rfl⟩;try rfl)
theorem b1a {L:Vm.Frame} {H:Vm.Heap} {nx:Nat} {Q:PV→Vm.Heap→Nat→Prop} {dst:Option Tmp} {ty:TypeId} {pos:String} {af:Array Edge} {gd:Option (Nat×Bool)} {fo:Operand} {args:Array Operand} {aT:Array TypeId} {fs cs xs:List PV} {c:Code}
 (hf:AU env.Γ L fo=some (.clo 158 fs cs)) (ha:evs env.Γ L args.toList=some xs) (hb:Tryz.f158.body=some c) (hn:(fs++xs++cs).length≤Tryz.f158.ntmps)
 (h:Ad env nx c (CG 0 (fs++xs++cs)) H nx (AB env.P Tryz.f158.results.toList Q)):Aa env true ⟨dst,.call { callee:=.value fo,args:=args,argTypes:=aT },ty,pos,af,gd⟩ L H nx Q:=by
 have h0:(match Tryz.f158.body with|some c=>IL env.G Tryz.f158 c|none=>false)=true:=by kernel_rfl
 rw [hb] at h0;exact Aa.inline rfl hf ha (Ae (by decide)) Tryz.func158 hb h0 hn h
theorem b1w {L:Vm.Frame} {H:Vm.Heap} {nx:Nat} {Q:PV→Vm.Heap→Nat→Prop} {dst:Option Tmp} {ty:TypeId} {pos:String} {af:Array Edge} {gd:Option (Nat×Bool)} {fo:Operand} {args:Array Operand} {aT:Array TypeId} {fs cs xs:List PV} {c:Code}
 (hf:AU env.Γ L fo=some (.clo 183 fs cs)) (ha:evs env.Γ L args.toList=some xs) (hb:Tryz.f183.body=some c) (hn:(fs++xs++cs).length≤Tryz.f183.ntmps)
 (h:Ad env nx c (CG 0 (fs++xs++cs)) H nx (AB env.P Tryz.f183.results.toList Q)):Aa env true ⟨dst,.call { callee:=.value fo,args:=args,argTypes:=aT },ty,pos,af,gd⟩ L H nx Q:=by
 have h0:(match Tryz.f183.body with|some c=>IL env.G Tryz.f183 c|none=>false)=true:=by kernel_rfl
 rw [hb] at h0;exact Aa.inline rfl hf ha (Ae (by decide)) Tryz.func183 hb h0 hn h
theorem yN {L:Vm.Frame} {H:Vm.Heap} {nx:Nat} {Q:PV→Vm.Heap→Nat→Prop} {dst:Option Tmp} {ty:TypeId} {pos:String} {af:Array Edge} {gd:Option (Nat×Bool)} {fo:Operand} {args:Array Operand} {aT:Array TypeId} {fs cs xs:List PV} {c:Code}
 (hf:AU env.Γ L fo=some (.clo 159 fs cs)) (ha:evs env.Γ L args.toList=some xs) (hb:Tryz.f159.body=some c) (hn:(fs++xs++cs).length≤Tryz.f159.ntmps)
 (h:Ad env nx c (CG 0 (fs++xs++cs)) H nx (AB env.P Tryz.f159.results.toList Q)):Aa env true ⟨dst,.call { callee:=.value fo,args:=args,argTypes:=aT },ty,pos,af,gd⟩ L H nx Q:=by
 have h0:(match Tryz.f159.body with|some c=>IL env.G Tryz.f159 c|none=>false)=true:=by kernel_rfl
 rw [hb] at h0;exact Aa.inline rfl hf ha (Ae (by decide)) Tryz.func159 hb h0 hn h
theorem mg (ks:List lC) (l:List lM) (hk0:ks.length<1000000) (hl:l.length<1000000) (hn0:∀ i,i<l.length→(gi l i).name.length<1000000):Ai env 121 [.lst 115 (cells ks) ks.length,.lst 236 (cells l) l.length] (.p (.int .i64 (DX ks l))):=by
 unfold DX;refine Ai.enter (Ae (by decide)) Tryz.func121 rfl (by kernel_rfl) (by simp [Tryz.ntmps121]) ?_;by_cases h0:ks.length>8∨l.length>40
 ·rw [if_pos h0]
  repeat' (first|refine go2 ?_|(apply Ah.guard;rfl;rfl)|(apply Ad.AX;rfl)|(apply Ad.Ac;rfl)|(intro _;try (exfalso;omega)))
  all_goals first|(exfalso;omega)|(refine Done.rt rfl rfl ⟨?_,rfl,rfl⟩;try rfl)
 rw [if_neg h0]
 repeat' (first|refine go2 ?_|(apply Ah.guard;rfl;rfl)|(apply Ad.Ac;rfl)|(intro _;try (exfalso;omega)))
 all_goals try (exfalso;omega)
 refine Ad.D6 (fun k:Nat=>[(0,lst 115 ks),(1,lst 236 l),(17,lst 115 ks),(18,.p (.int .i64 (ks.length:Int))),(19,.p (.int .i64 (k:Int)))]) (fun _=>[]) 0 (fun k=>k≤ks.length∧TD ks k=TD ks 0) (fun k=>ks.length-k) 0 (by omega) ⟨by omega,rfl⟩ ⟨by omega,?_,BG.nil⟩ ?_
 ·exact Dy
 rintro k ⟨hk,hE⟩;by_cases hkl:k<ks.length
 ·have hc:=Za (gi ks k).lo (gi ks k).hi
  by_cases h1:XY (gi ks k).lo (gi ks k).hi=0
  ·rw [h1] at hc
   repeat' (first|(apply Aa.fn;rfl;rfl;exact hc;intro _;rfl)|(apply Aa.Ap;rfl;rfl;rfl;omega;rfl)|refine Cb ?_|(apply Aa.int;rfl;rfl;rfl)|(apply Ad.Ac;rfl)|(apply Ad.cond_false;rfl)|(intro _;try (exfalso;omega)))
   all_goals try (exfalso;omega)
   all_goals try contradiction
   refine Aj.normal ⟨k+1,⟨by omega,?_⟩,by omega,⟨by omega,?_,BG.nil⟩⟩
   ·first|rfl|(refine ed ?_ hE;symm;(conv=>lhs;rw [TD]);rw [if_pos hkl,if_neg (fun h=>h h1)])
   ·exact Dy
  ·have e:TD ks 0=23:=by rw [← hE,TD,if_pos hkl,if_pos h1]
   rw [if_pos (by rw [e];decide),e]
   repeat' (first|(apply Aa.fn;rfl;rfl;exact hc;intro _;rfl)|(apply Aa.Ap;rfl;rfl;rfl;omega;rfl)|refine Cb ?_|(apply Aa.int;rfl;rfl;rfl)|(apply Ad.Ac;rfl)|(apply Ad.Aq;rfl)|(intro _;try (exfalso;omega)))
   all_goals first|(exfalso;omega)|contradiction|(refine Done.rt rfl rfl ⟨?_,rfl,rfl⟩;try rfl)
 obtain rfl:k=ks.length:=by omega
 have e:TD ks 0=0:=by rw [← hE,TD,if_neg (by omega)]
 rw [if_neg (fun h=>h e)]
 repeat' (first|refine go2 ?_|(apply Ad.Ac;rfl)|(intro _;try (exfalso;omega)))
 all_goals try (exfalso;omega)
 refine Ad.D6 (fun k:Nat=>[(0,lst 115 ks),(1,lst 236 l),(27,lst 236 l),(28,.p (.int .i64 (l.length:Int))),(29,.p (.int .i64 (k:Int)))]) (fun _=>[]) 0 (fun k=>k≤l.length∧SK ks.length l k=SK ks.length l 0) (fun k=>l.length-k) 0 (by omega) ⟨by omega,rfl⟩ ⟨by omega,?_,BG.nil⟩ ?_
 ·exact Dy
 rintro k ⟨hk,hE⟩;rw [← hE];by_cases hkl:k<l.length
 case neg =>
  rw [SK,if_neg hkl]
  repeat' (first|refine go2 ?_|(apply Ad.Ac;rfl)|(intro _;try (exfalso;omega)))
  all_goals first|(exfalso;omega)|(refine Done.rt rfl rfl ⟨?_,rfl,rfl⟩;try rfl)
 rw [SK,if_pos hkl];have hN:=IJ (gi l k).name (by have:=hn0 k hkl;omega);by_cases h1:DV (gi l k).name
 case neg =>
  rw [if_pos h1];rw [decide_eq_false h1] at hN
  repeat' (first|(apply Aa.fn;rfl;rfl;exact hN;intro _;rfl)|(apply Aa.Ap;rfl;rfl;rfl;omega;rfl)|refine Cb ?_|apply Ad.J9|(apply Aa.int;rfl;rfl;rfl)|(apply Ad.Ac;rfl)|(apply Ad.cond_true;rfl)|(intro _;try (exfalso;omega)))
  all_goals first|(exfalso;omega)|contradiction|(refine Done.rt rfl rfl ⟨?_,rfl,rfl⟩;try rfl)
 rw [if_neg (fun h=>h h1)];rw [decide_eq_true h1] at hN;have hT:(gi l k).name∈(l.take k).map lM.name↔∃ j,j<k∧(gi l j).name=(gi l k).name:=by
  rw [be];constructor
  ·rintro ⟨a,ha,e⟩
   obtain ⟨j,h1,h2⟩:=ZQ.1 ha;rw [aw] at h1;rw [Yx (by omega)] at h2;exact ⟨j,by omega,by rw [h2,e]⟩
  ·rintro ⟨j,hj,e⟩
   exact ⟨gi l j,ZQ.2 ⟨j,by rw [aw];omega,Yx hj⟩,e⟩
 repeat' (first|(apply Aa.fn;rfl;rfl;exact hN;intro _;rfl)|(apply b1a;rfl;rfl;rfl;exact le_dec rfl)|(apply b1w;rfl;rfl;rfl;exact le_dec rfl)|(apply Aa.makeFunc;rfl;rfl)|(apply Aa.Ap;rfl;rfl;rfl;omega;rfl)|refine Cb ?_|apply Ad.J9|(apply Aa.sliceTo;rfl;rfl;rfl;rfl;rfl;rfl;omega)|(apply Aa.int;rfl;rfl;rfl)|(apply Ad.Ac;rfl)|(apply Ad.cond_false;rfl)|(intro _;try (exfalso;omega)))
 all_goals try (exfalso;omega)
 all_goals try contradiction
 refine Ad.D6 (fun j:Nat=>[(0,.p (.lst 236 (cells (l.take k)) k)),(1,.clo 159 [] [.ref 0 0]),(7,.p (.int .i64 (k:Int))),(8,.p (.int .i64 (j:Int)))]) (fun _=>[(0,.box 236 ((Enc.enc (gi l k)).map .p))]) 1 (fun j=>j≤k∧∀ i,i<j→(gi l i).name≠(gi l k).name) (fun j=>k-j) 0 (by omega) ⟨by omega,fun i hi=>by omega⟩ ⟨by omega,?_,?_⟩ ?_
 ·exact Dy
 ·exact Ey
 rintro j ⟨hj,hok⟩;by_cases hjk:j<k
 ·have hgt:gi (l.take k) j=gi l j:=Yx hjk
  have hlt:(l.take k).length=k:=by rw [aw];omega
  generalize hg:decide ((gi l j).name=(gi l k).name)=g at *;have hg2:decide ((gi (l.take k) j).name=(gi l k).name)=g:=by rw [hgt];exact hg
  cases g
  ·repeat' (first|(apply yN;rfl;rfl;rfl;exact le_dec rfl)|(apply Aa.c0u;rfl;rfl;exact hg2)|(apply Aa.Ap (l:=l.take k) (i:=j);rfl;rfl;rfl;omega;exact hlt)|refine Cb ?_|(apply AB.ret;rfl)|(apply Aa.int;rfl;rfl;rfl)|(apply Ad.Ac;rfl)|(apply Ad.cond_false;rfl)|(intro _;try (exfalso;omega)))
   all_goals try (exfalso;omega)
   refine Aj.normal ⟨j+1,⟨by omega,fun i hi=>?_⟩,by omega,⟨by omega,?_,?_⟩⟩
   ·rcases ax i j with h|h
    ·exact hok i h
    ·obtain rfl:i=j:=by omega
     exact of_decide_eq_false hg
   ·exact Dy
   ·exact Ey
  ·rw [if_pos (hT.2 ⟨j,hjk,of_decide_eq_true hg⟩)]
   repeat' (first|(apply yN;rfl;rfl;rfl;exact le_dec rfl)|(apply Aa.c0u;rfl;rfl;exact hg2)|(apply Aa.Ap (l:=l.take k) (i:=j);rfl;rfl;rfl;omega;exact hlt)|refine Cb ?_|(apply AB.ret;rfl)|(apply Aa.int;rfl;rfl;rfl)|(apply Ad.Ac;rfl)|(apply Ad.cond_true;rfl)|(intro _;try (exfalso;omega)))
   all_goals first|(exfalso;omega)|contradiction|(refine Done.rt rfl rfl ⟨?_,rfl,rfl⟩;try rfl)
 obtain rfl:j=k:=by omega
 rw [if_neg (fun h=>by obtain ⟨i,h1,h2⟩:=hT.1 h;exact hok i h1 h2)]
 repeat' (first|refine go2 ?_|(apply AB.ret;rfl)|(apply Ah.guard;rfl;rfl)|(apply Ad.Ac;rfl)|(apply Ad.cond_true;rfl)|(apply Ad.cond_false;rfl)|(apply Ad.Aq;rfl)|(intro _;try (exfalso;omega)))
 all_goals try (exfalso;omega)
 all_goals try contradiction
 all_goals first
  |(rw [if_pos (by omega)];(refine Done.rt rfl rfl ⟨?_,rfl,rfl⟩;try rfl);done)
  |(rw [if_neg (by omega),if_pos (by omega)];(refine Done.rt rfl rfl ⟨?_,rfl,rfl⟩;try rfl);done)
  |(rw [if_neg (by omega),if_neg (by omega),if_pos (by omega)];(refine Done.rt rfl rfl ⟨?_,rfl,rfl⟩;try rfl);done)
  |(rw [if_neg (by omega),if_neg (by omega),if_neg (by omega)]
    refine Aj.normal ⟨j+1,⟨by omega,?_⟩,by omega,⟨by omega,?_,BG.nil⟩⟩
    ·first|rfl|(refine ed ?_ hE;symm;(conv=>lhs;rw [SK]);rw [if_pos hkl,if_neg (fun h=>h h1),if_neg (fun h=>by obtain ⟨i,h1,h2⟩:=hT.1 h;exact hok i h1 h2),if_neg (by omega),if_neg (by omega),if_neg (by omega)])
    ·exact Dy)
end Go.Proofs.YtnjkoebfgcbbdaaGreatDoor
