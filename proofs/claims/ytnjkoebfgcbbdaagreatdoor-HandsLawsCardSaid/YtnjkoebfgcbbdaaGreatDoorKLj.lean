/-
  Texts of a proof, merged (OrF, RkJ, RkK, RkL, OrG, OrH, OrI, OrC, OrD). Conditions: in each statement.
-/
import Derived.Test.YtnjkoebfgcbbdaaGreatDoorKLi
set_option linter.unusedSimpArgs false
set_option linter.unusedVariables false
set_option linter.unusedSectionVars false
set_option maxRecDepth 100000
set_option maxHeartbeats 8000000
abbrev bc:=@Int.le_refl
abbrev bw:=@Int.emod_lt_of_pos
abbrev bz:=@Int.emod_nonneg
namespace Go.Proofs.YtnjkoebfgcbbdaaGreatDoor
open Go Go.Am Go.Vm
attribute [local irreducible] Aa Aj Ah Ad AP Ap Bd BL Bf Ag Vm.Done BA AB
structure Pul where
 rank:Nat
 Eb:Nat
 kind:Nat
 at_:Nat
instance:Enc Pul:={ default:=⟨0,0,0,0⟩,enc:=fun x=>[.int .u8 (x.rank:Int),.int .u8 (x.Eb:Int),.int .u8 (x.kind:Int),.int .u8 (x.at_:Int)],size:=4,len:=fun _=>rfl }
structure Pul.Ok (x:Pul):Prop where
 rank:x.rank<256
 Eb:x.Eb<256
 kind:x.kind<256
 at_:x.at_<256
structure Brd where
 low:Nat
 keys:Nat
 W9:Bool
 stops:List Pul
instance:Enc Brd:={ default:=⟨0,0,false,[]⟩,enc:=fun x=>[.int .u8 (x.low:Int),.int .u8 (x.keys:Int),.bool x.W9,.lst 232 (cells x.stops) x.stops.length],size:=4,len:=fun _=>rfl }
structure Brd.Ok (x:Brd):Prop where
 low:x.low<256
 keys:x.keys<256
 stops:x.stops.length<9223372036854775808
 all:∀ i,i<x.stops.length→(gi x.stops i).Ok
structure Lnk where
 VD:Nat
 tgt:Nat
 shift:Int
 through:Bool
instance:Enc Lnk:={ default:=⟨0,0,0,false⟩,enc:=fun x=>[.int .u8 (x.VD:Int),.int .u8 (x.tgt:Int),.int .i8 x.shift,.bool x.through],size:=4,len:=fun _=>rfl }
structure Lnk.Ok (x:Lnk):Prop where
 VD:x.VD<256
 tgt:x.tgt<256
 shift:-128≤x.shift∧x.shift≤127
instance c0f:Enc GK:={ default:=⟨0,0,0,0,[]⟩,enc:=GK.enc,size:=9,len:=fun _=>rfl }
structure OPl where
 ranks:List GK
 Af:List Brd
 links:List Lnk
def OPl.enc (x:OPl):List FV:=[.lst 226 (cells x.ranks) x.ranks.length,.lst 211 (cells x.Af) x.Af.length,.lst 234 (cells x.links) x.links.length]
structure OPl.Ok (x:OPl):Prop where
 ranks:∀ i,i<x.ranks.length→(gi x.ranks i).Ok
 Af:∀ i,i<x.Af.length→(gi x.Af i).Ok
 links:∀ i,i<x.links.length→(gi x.links i).Ok
 nr:x.ranks.length<9223372036854775808
 nd:x.Af.length<9223372036854775808
 nl:x.links.length<9223372036854775808
def RS:List KJ:=[⟨8,1⟩,⟨4,1⟩,⟨16,1⟩,⟨8,3⟩,⟨2,1⟩,⟨8,5⟩]
theorem vY (n:Nat) (hn:n<256):Ap env 151 [.int .u8 (n:Int)] (.p (.agg (Enc.enc (gi RS (n % 6))))):=by
 refine Ap.enter (Ae (by decide)) Tryz.func151 rfl (by kernel_rfl) (by simp [Tryz.ntmps151]) ?_;have hlt:n % 6<6:=bb _ (by decide)
 repeat' (first|(refine Aj.HY 12 ?_;refine Aj.ghost (Aw.freeze 9 rfl rfl) ?_)|apply Ad.Bz|apply Ad.ret|apply Aj.nil|apply Aj.one|(apply Aa.Ak (l:=RS) (i:=n % 6);rfl;rfl;rfl;exact hlt;rfl)|(apply Aa.move;rfl)|(apply Aa.vF;rfl;rfl;omega;omega)|(apply Aa.load;rfl;rfl)|(apply Aa.alloc;rfl)|(apply Aa.FI;rfl;rfl;rfl;trivial;rfl;rfl;exact Bj rfl;exact le_dec rfl)|(apply Aa.build;rfl;rfl;rfl;rfl;rfl)|(apply Aa.buildSlice;rfl;rfl;rfl;decide;rfl;rfl;rfl))
 all_goals (refine Done.rt rfl rfl ⟨?_,rfl,rfl⟩;try rfl)
theorem a7s:∀ n,n<6→pOk (gi RS n) :=by decide
theorem a6l:∀ a,a<6→∀ b,b<16→(AZ (gi RS a) (gi Rq b)).2=0∧-100≤(AZ (gi RS a) (gi Rq b)).1∧(AZ (gi RS a) (gi Rq b)).1≤100 :=by decide
structure zO (rk:List Hr):Prop where
 len:0<rk.length∧rk.length≤3
 ok:∀ i,i<rk.length→Ce (gi rk i)=0∧∃ b,b<16∧(gi rk i).Eb=gi Rq b
attribute [local irreducible] Ce Ba AZ
theorem b0r (rk:List Hr) (lo hi:Int) (x:Pul) (i:Nat) (hrk:zO rk) (hc:0≤lo∧lo≤hi∧hi≤127) (hx:x.Ok) (hi9:i≤9) :
 ∃ s:Stp,Ap env 115 [.lst 113 (cells rk) rk.length,.agg [.int .i64 lo,.int .i64 hi],.agg (Enc.enc x),.int .i64 (i:Int)] (.p (.agg (Enc.enc s)))∧s.name=N9 83 i∧DV rk lo hi s=0∧nT s∧∃ a,a<6∧s.Eb=gi RS a:=by
 obtain ⟨hl,hok⟩:=hrk;obtain ⟨x1,x2,x3,x4⟩:=hx;obtain ⟨n,hn⟩:∃ n,n=x.rank % rk.length:=⟨_,rfl⟩
 have hnl:n<rk.length:=by rw [hn];exact bb _ hl.1
 obtain ⟨m,hm⟩:∃ m,m=(n+1) % rk.length:=⟨_,rfl⟩
 have hml:m<rk.length:=by rw [hm];exact bb _ hl.1
 have hf6:=vY x.Eb x2;have h6:x.Eb % 6<6:=bb _ (by decide);have f6:=a7s _ h6;obtain ⟨-,b,hb,eb⟩:=hok n hnl;obtain ⟨-,c,hc2,ec⟩:=hok m hml;have s1:=a6l _ h6 b hb;have s2:=a6l _ h6 c hc2;rw [← eb] at s1;rw [← ec] at s2;generalize hF:gi RS (x.Eb % 6)=F at *;have q1:=XL F (gi rk n).Eb;have q2:=XL F (gi rk m).Eb;rw [s1.1] at q1;rw [s2.1] at q2;generalize (AZ F (gi rk n).Eb).1=sh at *;generalize (AZ F (gi rk m).Eb).1=so at *;have c5h:qP rk lo hi=0:=a1f (fun i h=>(hok i h).1) (by omega) hc;have stE:∀ g:List Seg,(0<g.length∧g.length≤12)→Nv rk.length lo hi g 0=0→DV rk lo hi ⟨N9 83 i,F,g⟩=0:=fun g h1 h2=>by
  unfold DV b7g;rw [if_neg (fun h=>h c5h),if_neg (fun h=>h (uI (by decide) (by omega))),if_neg (fun h=>h (TQ.2 f6)),if_neg (by simp only;omega),if_neg (by simp only;omega)];exact h2
 have sm:∀ g:List Seg,g.length<1000000→(∀ j,j<g.length→(gi g j).draws.length<1000000)→nT ⟨N9 83 i,F,g⟩:=fun g h1 h2=>⟨by simp [N9],h1,fun j hj=>⟨h2 j hj⟩⟩
 have sV:WW rk.length ⟨n,sh⟩:=⟨⟨by simp only;omega,by simp only;omega⟩,⟨by simp only;omega,by simp only;omega⟩⟩
 have hn2:(n:Int)=(x.rank:Int) % rk.length:=by rw [hn];simp
 obtain ⟨d,hd⟩:∃ d:Nat,(d:Int)=(x.at_:Int) % (hi-lo+1):=⟨((x.at_:Int) % (hi-lo+1)).toNat,by have:=bz (x.at_:Int) (show hi-lo+1≠0 by omega);omega⟩
 have hd2:(d:Int)≤hi-lo:=by have:=bw (x.at_:Int) (show 0<hi-lo+1 by omega);omega
 have hk6:x.kind % 6<6:=bb _ (by decide);rw [hm,hn] at q2 hml;rw [hn] at q1 hnl;have hm2:(m:Int)=((x.rank:Int) % rk.length+1) % rk.length:=by rw [hm,hn];simp
 have hAt:lo+(d:Int)=lo+(x.at_:Int) % (hi-lo+1):=by omega
 rw [hn2] at sV;have dSo:WW rk.length ⟨((x.rank:Int) % rk.length+1) % rk.length,so⟩:=by
  rw [← hm2];exact ⟨⟨by simp only;omega,by simp only;rw [hm];have:=bb (n+1) hl.1;omega⟩,⟨by simp only;omega,by simp only;omega⟩⟩
 have dTw:WW rk.length ⟨(x.rank:Int) % rk.length,sh-12⟩:=⟨sV.rank,⟨by simp only;omega,by simp only;omega⟩⟩
 have dTh:WW rk.length ⟨(x.rank:Int) % rk.length,sh+7⟩:=⟨sV.rank,⟨by simp only;omega,by simp only;omega⟩⟩
 by_cases k2:x.kind % 6=2
 ·refine ⟨⟨N9 83 i,F,[⟨lo,hi,[⟨(x.rank:Int) % rk.length,sh⟩,⟨(x.rank:Int) % rk.length,sh+7⟩]⟩]⟩,?_,rfl,?_,?_,_,h6,hF.symm⟩
  ·refine Ap.enter (Ae (by decide)) Tryz.func115 rfl (by kernel_rfl) (by simp [Tryz.ntmps115]) ?_
   repeat' (first|(refine Ad.at 5 ?_;refine Ad.ghost (Aw.freeze 13 rfl rfl) ?_;first|apply Ad.Bz|apply Ad.Cm)|(refine Ad.at 22 ?_;refine Ad.ghost (Aw.Dn 4 3 rfl rfl rfl) ?_;first|apply Ad.Bz|apply Ad.Cm)|(refine Aj.HY 88 ?_;refine Aj.ghost (Aw.freeze 87 rfl rfl) ?_)|apply Ad.assoc|apply Ad.Bz|apply Ad.Cm|apply Ad.region|apply Ad.Fz|apply BL.normal|apply Bf.normal|apply Ad.ret|apply Aj.nil|apply Ah.nil|apply Aj.one|(apply Ah.bar;decide +kernel)|apply Ah.quiet|(apply Aa.fn;rfl;rfl;exact hf6;intro _;rfl)|(apply Aa.fn;rfl;rfl;exact q1;intro _;rfl)|(apply Aa.H8;rfl;rfl;rfl;rfl;rfl;omega)|(apply Aa.Ak (l:=rk) (i:=x.rank % rk.length);rfl;rfl;rfl;exact hnl;rfl)|(apply Aa.assign;rfl)|(apply Aa.move;rfl)|(apply Aa.LQ;rfl;rfl;omega)|(apply Aa.rD;rfl;rfl;omega)|(apply Aa.vF;rfl;rfl;omega;omega)|(apply Aa.int;rfl;rfl;rfl)|(apply Aa.load;rfl;rfl)|(apply Aa.qy;rfl;rfl)|(apply Aa.Ij;rfl;rfl;rfl)|(apply Aa.ZQ;rfl;rfl)|(apply Aa.box;rfl;trivial)|(apply Aa.alloc;rfl)|(apply Aa.FI;rfl;rfl;rfl;trivial;rfl;rfl;exact Bj rfl;exact le_dec rfl)|(apply Aa.build;rfl;rfl;rfl;rfl;rfl)|(apply Aa.buildSlice;rfl;rfl;rfl;decide;rfl;rfl;rfl)|(apply Aa.X0;rfl;rfl;(first|omega|(simp only [List.length_take,List.length_drop,List.length_append,List.length_singleton,List.length_cons,List.length_nil]<;>omega)))|(apply Aa.extract;rfl;rfl)|(apply Aa.Hw;rfl;rfl;rfl;rfl;omega)|(apply Aa.Nj;rfl;rfl;rfl;rfl;omega)|(apply Ad.Ar;rfl)|(intro _;try (exfalso;omega)))
   all_goals first|(exfalso;omega)|contradiction|(refine Done.rt rfl rfl ⟨?_,rfl,rfl⟩;rfl)
  ·exact stE _ (by simp) (Ns ⟨bc _,hc.2.1,bc _⟩ (a4t sV dTh (fun h=>by have:=congrArg sZ.shift h;simp only at this;omega)))
  ·refine sm _ (by simp) (fun j hj=>?_)
   obtain rfl:j=0:=by simp at hj;omega
   show 2<1000000;decide
 by_cases k5:x.kind % 6=5
 ·refine ⟨⟨N9 83 i,F,[⟨lo+(x.at_:Int) % (hi-lo+1),hi,[⟨(x.rank:Int) % rk.length,sh⟩]⟩]⟩,?_,rfl,?_,?_,_,h6,hF.symm⟩
  ·refine Ap.enter (Ae (by decide)) Tryz.func115 rfl (by kernel_rfl) (by simp [Tryz.ntmps115]) ?_
   repeat' (first|(refine Ad.at 5 ?_;refine Ad.ghost (Aw.freeze 13 rfl rfl) ?_;first|apply Ad.Bz|apply Ad.Cm)|(refine Ad.at 22 ?_;refine Ad.ghost (Aw.Dn 4 3 rfl rfl rfl) ?_;first|apply Ad.Bz|apply Ad.Cm)|(apply Aa.fn;rfl;rfl;exact hf6;intro _;rfl)|(apply Aa.fn;rfl;rfl;exact q1;intro _;rfl)|(apply Aa.Ak (l:=rk) (i:=x.rank % rk.length);rfl;rfl;rfl;exact hnl;rfl)|refine go1 ?_|apply Ad.Bz|apply Ad.Cm|apply Ad.region|(apply Aa.H8;rfl;rfl;rfl;rfl;rfl;omega)|(apply Aa.int;rfl;rfl;rfl)|(apply Aa.build;rfl;rfl;rfl;rfl;rfl)|(apply Aa.buildSlice;rfl;rfl;rfl;decide;rfl;rfl;rfl)|(apply Aa.X0;rfl;rfl;(first|omega|(simp only [List.length_take,List.length_drop,List.length_append,List.length_singleton,List.length_cons,List.length_nil]<;>omega)))|(apply Aa.Hw;rfl;rfl;rfl;rfl;omega)|(apply Aa.Nj;rfl;rfl;rfl;rfl;omega)|(apply Ad.Ac;rfl)|(apply Ad.Ar;rfl)|(intro _;try (exfalso;omega)))
   all_goals first|(exfalso;omega)|contradiction|(refine Done.rt rfl rfl ⟨?_,rfl,rfl⟩;rfl)
  ·exact stE _ (by simp) (Ns ⟨by simp only;omega,by simp only;omega,bc _⟩ (JO sV))
  ·refine sm _ (by simp) (fun j hj=>?_)
   obtain rfl:j=0:=by simp at hj;omega
   show 1<1000000;decide
 by_cases k01:x.kind % 6<2
 ·refine ⟨⟨N9 83 i,F,[⟨lo,hi,[⟨(x.rank:Int) % rk.length,sh⟩]⟩]⟩,?_,rfl,?_,?_,_,h6,hF.symm⟩
  ·refine Ap.enter (Ae (by decide)) Tryz.func115 rfl (by kernel_rfl) (by simp [Tryz.ntmps115]) ?_
   repeat' (first|(refine Ad.at 5 ?_;refine Ad.ghost (Aw.freeze 13 rfl rfl) ?_;first|apply Ad.Bz|apply Ad.Cm)|(refine Ad.at 22 ?_;refine Ad.ghost (Aw.Dn 4 3 rfl rfl rfl) ?_;first|apply Ad.Bz|apply Ad.Cm)|(apply Aa.fn;rfl;rfl;exact hf6;intro _;rfl)|(apply Aa.fn;rfl;rfl;exact q1;intro _;rfl)|(apply Aa.Ak (l:=rk) (i:=x.rank % rk.length);rfl;rfl;rfl;exact hnl;rfl)|refine go1 ?_|apply Ad.Bz|apply Ad.Cm|apply Ad.region|(apply Aa.H8;rfl;rfl;rfl;rfl;rfl;omega)|(apply Aa.int;rfl;rfl;rfl)|(apply Aa.build;rfl;rfl;rfl;rfl;rfl)|(apply Aa.buildSlice;rfl;rfl;rfl;decide;rfl;rfl;rfl)|(apply Aa.X0;rfl;rfl;(first|omega|(simp only [List.length_take,List.length_drop,List.length_append,List.length_singleton,List.length_cons,List.length_nil]<;>omega)))|(apply Aa.Hw;rfl;rfl;rfl;rfl;omega)|(apply Aa.Nj;rfl;rfl;rfl;rfl;omega)|(apply Ad.Ac;rfl)|(apply Ad.Ar;rfl)|(intro _;try (exfalso;omega)))
   all_goals first|(exfalso;omega)|contradiction|(refine Done.rt rfl rfl ⟨?_,rfl,rfl⟩;rfl)
  ·exact stE _ (by simp) (Ns ⟨bc _,hc.2.1,bc _⟩ (JO sV))
  ·refine sm _ (by simp) (fun j hj=>?_)
   obtain rfl:j=0:=by simp at hj;omega
   show 1<1000000;decide
 by_cases hd0:d=0
 ·by_cases k3:x.kind % 6=3
  ·refine ⟨⟨N9 83 i,F,[⟨lo+(x.at_:Int) % (hi-lo+1),hi,[⟨((x.rank:Int) % rk.length+1) % rk.length,so⟩]⟩]⟩,?_,rfl,?_,?_,_,h6,hF.symm⟩
   ·refine Ap.enter (Ae (by decide)) Tryz.func115 rfl (by kernel_rfl) (by simp [Tryz.ntmps115]) ?_
    repeat' (first|(refine Ad.at 17 ?_;refine Ad.ghost (Aw.trans (Aw.freeze 15 rfl rfl) (Aw.EU 4 3 273 rfl rfl)) ?_;first|apply Ad.Bz|apply Ad.Cm)|(refine Ad.at 5 ?_;refine Ad.ghost (Aw.freeze 13 rfl rfl) ?_;first|apply Ad.Bz|apply Ad.Cm)|(refine Ad.at 22 ?_;refine Ad.ghost (Aw.Dn 4 3 rfl rfl rfl) ?_;first|apply Ad.Bz|apply Ad.Cm)|(apply Aa.Dc (l:=([]:List Seg)) (a:=⟨lo+(x.at_:Int) % (hi-lo+1),hi,[⟨((x.rank:Int) % rk.length+1) % rk.length,so⟩]⟩);rfl;rfl;rfl;rfl;rfl;rfl;rfl;rfl;(intro _ h;cases h);rfl;rfl;rfl;decide;decide;(first|omega|(simp only [List.length_nil,List.length_cons]<;>omega)))|(apply Aa.fn;rfl;rfl;exact hf6;intro _;rfl)|(apply Aa.fn;rfl;rfl;exact q1;intro _;rfl)|(apply Aa.fn;rfl;rfl;exact q2;intro _;rfl)|(apply Aa.Ak (l:=rk) (i:=x.rank % rk.length);rfl;rfl;rfl;exact hnl;rfl)|(apply Aa.Ak (l:=rk) (i:=(x.rank % rk.length+1) % rk.length);rfl;rfl;rfl;exact hml;rfl)|refine go1 ?_|apply Ad.Bz|apply Ad.Cm|apply Ad.region|(apply Aa.H8;rfl;rfl;rfl;rfl;rfl;omega)|(apply Aa.int;rfl;rfl;rfl)|(apply Aa.build;rfl;rfl;rfl;rfl;rfl)|(apply Aa.buildSlice;rfl;rfl;rfl;decide;rfl;rfl;rfl)|(apply Aa.X0;rfl;rfl;(first|omega|(simp only [List.length_take,List.length_drop,List.length_append,List.length_singleton,List.length_cons,List.length_nil]<;>omega)))|(apply Aa.Hw;rfl;rfl;rfl;rfl;omega)|(apply Aa.Nj;rfl;rfl;rfl;rfl;omega)|(apply Ad.Ac;rfl)|(apply Ad.Ar;rfl)|(intro _;try (exfalso;omega)))
    all_goals first|(exfalso;omega)|contradiction|(refine Done.rt rfl rfl ⟨?_,rfl,rfl⟩;rfl)
   ·exact stE _ (by simp) (Ns ⟨by simp only;omega,by simp only;omega,bc _⟩ (JO dSo))
   ·refine sm _ (by simp) (fun j hj=>?_)
    obtain rfl:j=0:=by simp at hj;omega
    show 1<1000000;decide
  ·refine ⟨⟨N9 83 i,F,[⟨lo+(x.at_:Int) % (hi-lo+1),hi,[⟨(x.rank:Int) % rk.length,sh-12⟩]⟩]⟩,?_,rfl,?_,?_,_,h6,hF.symm⟩
   ·refine Ap.enter (Ae (by decide)) Tryz.func115 rfl (by kernel_rfl) (by simp [Tryz.ntmps115]) ?_
    repeat' (first|(refine Ad.at 17 ?_;refine Ad.ghost (Aw.trans (Aw.freeze 15 rfl rfl) (Aw.EU 4 3 273 rfl rfl)) ?_;first|apply Ad.Bz|apply Ad.Cm)|(refine Ad.at 5 ?_;refine Ad.ghost (Aw.freeze 13 rfl rfl) ?_;first|apply Ad.Bz|apply Ad.Cm)|(refine Ad.at 22 ?_;refine Ad.ghost (Aw.Dn 4 3 rfl rfl rfl) ?_;first|apply Ad.Bz|apply Ad.Cm)|(apply Aa.Dc (l:=([]:List Seg)) (a:=⟨lo+(x.at_:Int) % (hi-lo+1),hi,[⟨(x.rank:Int) % rk.length,sh-12⟩]⟩);rfl;rfl;rfl;rfl;rfl;rfl;rfl;rfl;(intro _ h;cases h);rfl;rfl;rfl;decide;decide;(first|omega|(simp only [List.length_nil,List.length_cons]<;>omega)))|(apply Aa.fn;rfl;rfl;exact hf6;intro _;rfl)|(apply Aa.fn;rfl;rfl;exact q1;intro _;rfl)|(apply Aa.Ak (l:=rk) (i:=x.rank % rk.length);rfl;rfl;rfl;exact hnl;rfl)|refine go1 ?_|apply Ad.Bz|apply Ad.Cm|apply Ad.region|(apply Aa.H8;rfl;rfl;rfl;rfl;rfl;omega)|(apply Aa.int;rfl;rfl;rfl)|(apply Aa.build;rfl;rfl;rfl;rfl;rfl)|(apply Aa.buildSlice;rfl;rfl;rfl;decide;rfl;rfl;rfl)|(apply Aa.X0;rfl;rfl;(first|omega|(simp only [List.length_take,List.length_drop,List.length_append,List.length_singleton,List.length_cons,List.length_nil]<;>omega)))|(apply Aa.Hw;rfl;rfl;rfl;rfl;omega)|(apply Aa.Nj;rfl;rfl;rfl;rfl;omega)|(apply Ad.Ac;rfl)|(apply Ad.Ar;rfl)|(intro _;try (exfalso;omega)))
    all_goals first|(exfalso;omega)|contradiction|(refine Done.rt rfl rfl ⟨?_,rfl,rfl⟩;rfl)
   ·exact stE _ (by simp) (Ns ⟨by simp only;omega,by simp only;omega,bc _⟩ (JO dTw))
   ·refine sm _ (by simp) (fun j hj=>?_)
    obtain rfl:j=0:=by simp at hj;omega
    show 1<1000000;decide
 ·by_cases k3:x.kind % 6=3
  ·refine ⟨⟨N9 83 i,F,[⟨lo,lo+(x.at_:Int) % (hi-lo+1)-1,[⟨(x.rank:Int) % rk.length,sh⟩]⟩,⟨lo+(x.at_:Int) % (hi-lo+1),hi,[⟨((x.rank:Int) % rk.length+1) % rk.length,so⟩]⟩]⟩,?_,rfl,?_,?_,_,h6,hF.symm⟩
   ·refine Ap.enter (Ae (by decide)) Tryz.func115 rfl (by kernel_rfl) (by simp [Tryz.ntmps115]) ?_
    repeat' (first|(refine Ad.at 17 ?_;refine Ad.ghost (Aw.trans (Aw.freeze 15 rfl rfl) (Aw.EU 4 3 273 rfl rfl)) ?_;first|apply Ad.Bz|apply Ad.Cm)|(refine Ad.at 5 ?_;refine Ad.ghost (Aw.freeze 13 rfl rfl) ?_;first|apply Ad.Bz|apply Ad.Cm)|(refine Ad.at 22 ?_;refine Ad.ghost (Aw.Dn 4 3 rfl rfl rfl) ?_;first|apply Ad.Bz|apply Ad.Cm)|(apply Aa.Dc (l:=([]:List Seg)) (a:=⟨lo,lo+(x.at_:Int) % (hi-lo+1)-1,[⟨(x.rank:Int) % rk.length,sh⟩]⟩);rfl;rfl;rfl;rfl;rfl;rfl;rfl;rfl;(intro _ h;cases h);rfl;rfl;rfl;decide;decide;(first|omega|(simp only [List.length_nil,List.length_cons]<;>omega)))|(apply Aa.Dc (l:=([⟨lo,lo+(x.at_:Int) % (hi-lo+1)-1,[⟨(x.rank:Int) % rk.length,sh⟩]⟩]:List Seg)) (a:=⟨lo+(x.at_:Int) % (hi-lo+1),hi,[⟨((x.rank:Int) % rk.length+1) % rk.length,so⟩]⟩);rfl;rfl;rfl;rfl;rfl;rfl;rfl;rfl;(intro _ h;cases h);rfl;rfl;rfl;decide;decide;(first|omega|(simp only [List.length_nil,List.length_cons]<;>omega)))|(apply Aa.fn;rfl;rfl;exact hf6;intro _;rfl)|(apply Aa.fn;rfl;rfl;exact q1;intro _;rfl)|(apply Aa.fn;rfl;rfl;exact q2;intro _;rfl)|(apply Aa.Ak (l:=rk) (i:=x.rank % rk.length);rfl;rfl;rfl;exact hnl;rfl)|(apply Aa.Ak (l:=rk) (i:=(x.rank % rk.length+1) % rk.length);rfl;rfl;rfl;exact hml;rfl)|refine go1 ?_|apply Ad.Bz|apply Ad.Cm|apply Ad.region|(apply Aa.H8;rfl;rfl;rfl;rfl;rfl;omega)|(apply Aa.int;rfl;rfl;rfl)|(apply Aa.build;rfl;rfl;rfl;rfl;rfl)|(apply Aa.buildSlice;rfl;rfl;rfl;decide;rfl;rfl;rfl)|(apply Aa.X0;rfl;rfl;(first|omega|(simp only [List.length_take,List.length_drop,List.length_append,List.length_singleton,List.length_cons,List.length_nil]<;>omega)))|(apply Aa.Hw;rfl;rfl;rfl;rfl;omega)|(apply Aa.Nj;rfl;rfl;rfl;rfl;omega)|(apply Ad.Ac;rfl)|(apply Ad.Ar;rfl)|(intro _;try (exfalso;omega)))
    all_goals first|(exfalso;omega)|contradiction|(refine Done.rt rfl rfl ⟨?_,rfl,rfl⟩;rfl)
   ·exact stE _ (by simp) (iJ ⟨bc _,by simp only;omega,by simp only;omega,by simp only;omega,bc _⟩ (JO sV) (JO dSo))
   ·refine sm _ (by simp) (fun j hj=>?_)
    have:j=0∨j=1:=by simp at hj;omega
    rcases this with rfl|rfl
    ·show 1<1000000
     decide
    ·show 1<1000000
     decide
  ·refine ⟨⟨N9 83 i,F,[⟨lo,lo+(x.at_:Int) % (hi-lo+1)-1,[⟨(x.rank:Int) % rk.length,sh⟩]⟩,⟨lo+(x.at_:Int) % (hi-lo+1),hi,[⟨(x.rank:Int) % rk.length,sh-12⟩]⟩]⟩,?_,rfl,?_,?_,_,h6,hF.symm⟩
   ·refine Ap.enter (Ae (by decide)) Tryz.func115 rfl (by kernel_rfl) (by simp [Tryz.ntmps115]) ?_
    repeat' (first|(refine Ad.at 17 ?_;refine Ad.ghost (Aw.trans (Aw.freeze 15 rfl rfl) (Aw.EU 4 3 273 rfl rfl)) ?_;first|apply Ad.Bz|apply Ad.Cm)|(refine Ad.at 5 ?_;refine Ad.ghost (Aw.freeze 13 rfl rfl) ?_;first|apply Ad.Bz|apply Ad.Cm)|(refine Ad.at 22 ?_;refine Ad.ghost (Aw.Dn 4 3 rfl rfl rfl) ?_;first|apply Ad.Bz|apply Ad.Cm)|(apply Aa.Dc (l:=([]:List Seg)) (a:=⟨lo,lo+(x.at_:Int) % (hi-lo+1)-1,[⟨(x.rank:Int) % rk.length,sh⟩]⟩);rfl;rfl;rfl;rfl;rfl;rfl;rfl;rfl;(intro _ h;cases h);rfl;rfl;rfl;decide;decide;(first|omega|(simp only [List.length_nil,List.length_cons]<;>omega)))|(apply Aa.Dc (l:=([⟨lo,lo+(x.at_:Int) % (hi-lo+1)-1,[⟨(x.rank:Int) % rk.length,sh⟩]⟩]:List Seg)) (a:=⟨lo+(x.at_:Int) % (hi-lo+1),hi,[⟨(x.rank:Int) % rk.length,sh-12⟩]⟩);rfl;rfl;rfl;rfl;rfl;rfl;rfl;rfl;(intro _ h;cases h);rfl;rfl;rfl;decide;decide;(first|omega|(simp only [List.length_nil,List.length_cons]<;>omega)))|(apply Aa.fn;rfl;rfl;exact hf6;intro _;rfl)|(apply Aa.fn;rfl;rfl;exact q1;intro _;rfl)|(apply Aa.Ak (l:=rk) (i:=x.rank % rk.length);rfl;rfl;rfl;exact hnl;rfl)|refine go1 ?_|apply Ad.Bz|apply Ad.Cm|apply Ad.region|(apply Aa.H8;rfl;rfl;rfl;rfl;rfl;omega)|(apply Aa.int;rfl;rfl;rfl)|(apply Aa.build;rfl;rfl;rfl;rfl;rfl)|(apply Aa.buildSlice;rfl;rfl;rfl;decide;rfl;rfl;rfl)|(apply Aa.X0;rfl;rfl;(first|omega|(simp only [List.length_take,List.length_drop,List.length_append,List.length_singleton,List.length_cons,List.length_nil]<;>omega)))|(apply Aa.Hw;rfl;rfl;rfl;rfl;omega)|(apply Aa.Nj;rfl;rfl;rfl;rfl;omega)|(apply Ad.Ac;rfl)|(apply Ad.Ar;rfl)|(intro _;try (exfalso;omega)))
    all_goals first|(exfalso;omega)|contradiction|(refine Done.rt rfl rfl ⟨?_,rfl,rfl⟩;rfl)
   ·exact stE _ (by simp) (iJ ⟨bc _,by simp only;omega,by simp only;omega,by simp only;omega,bc _⟩ (JO sV) (JO dTw))
   ·refine sm _ (by simp) (fun j hj=>?_)
    have:j=0∨j=1:=by simp at hj;omega
    rcases this with rfl|rfl
    ·show 1<1000000
     decide
    ·show 1<1000000
     decide
end Go.Proofs.YtnjkoebfgcbbdaaGreatDoor
namespace Go.Proofs.YtnjkoebfgcbbdaaGreatDoor
open Go Go.Am Go.Vm
attribute [local irreducible] Aa Aj Ah Ad AP Ap Bd BL Bf Ag Vm.Done BA AB
noncomputable instance (a b:KJ):Decidable (a=b):=Classical.propDecidable _
noncomputable instance (a b:Hr):Decidable (a=b):=Classical.propDecidable _
def lnC (i c:Nat):Prop:=rG c∨(i≠0∧(c=95∨(48≤c∧c≤57)))
def c0g (r:Hr):Prop:=(r.EX.length≤30∨r.EX.length=129)∧r.name.length≤40∧r.JQ.length≤40
instance (r:Hr):Decidable (c0g r):=by unfold c0g;infer_instance
attribute [local irreducible] Ce Ba shz AZ X9
noncomputable def c8d (r:Hr) (f p:Int):FV×Int:=if X9 r f≠0 then (Lj,X9 r f) else if p<1∨p>r.EX.length-f then (Lj,3) else b1t r (r.first+f) ((r.EX.drop f.toNat).take ((f+p).toNat-f.toNat))
noncomputable def c7j (a b:Hr):FV×Int:=if Ce a≠0 then (Lj,Ce a) else if Ce b≠0 then (Lj,Ce b) else if ¬ (a.JQ=b.JQ∧a.Eb=b.Eb) then (Lj,14) else if b.first≠a.first+a.EX.length then (Lj,6) else b1t a a.first (a.EX++b.EX)
theorem a4y:∀ n,n<3→DF (gi UE n)
 |0,_=>a2e
 |1,_=>by
  refine ⟨by decide,by decide,by decide,fun i h1 h2=>?_⟩;have:i=1∨i=2∨i=3∨i=4:=by simp [UE,gi] at h2;omega
  rcases this with rfl|rfl|rfl|rfl<;>exact .inl (by decide)
 |2,_=>by
  refine ⟨by decide,by decide,by decide,fun i h1 h2=>?_⟩;have:i=1∨i=2∨i=3:=by simp [UE,gi] at h2;omega
  rcases this with rfl|rfl|rfl<;>exact .inl (by decide)
theorem b2n:∀ n,n<16→pOk (gi Rq n) :=by decide
theorem qj (x:GK):∀ k i,i<k→gi (IV x k) i=((gi x.EX (i % 5):Nat):Int)
 |k+1,i,h=>by
  rcases aq i k with h1|h1
  ·have:gi (IV x (k+1)) i=gi (IV x k) i:=by simp [IV,gi,List.getElem?_append_left (show i<(IV x k).length by rw [F8];omega)]
   rw [this];exact qj x k i h1
  ·obtain rfl:i=k:=by omega
   simp [IV,gi,List.getElem?_append_right (show (IV x i).length≤i by rw [F8];simp),F8]
theorem b7o (x:GK) (hx:x.Ok) (i:Int) (hi:0≤i):Ce (Wi x i)=0:=by
 obtain ⟨h1,h2,h3,h4,h5⟩:=hx;refine yc ⟨by simp [Wi],by simp [Wi],(show rG (82:UInt8).toNat by decide),fun j j1 j2=>?_⟩ (a4y _ (bb _ (by decide))) (b2n _ (bb _ (by decide))) ⟨by simp only [Wi];omega,by simp only [Wi];omega⟩ ⟨by simp only [Wi,F8];omega,by simp only [Wi,F8];omega⟩ (fun j hj=>?_)
 ·obtain rfl:j=1:=by simp [Wi] at j2;omega
  have e:(gi (Wi x i).name 1).toNat=(48+i % 10).toNat:=by
   show (UInt8.ofNat (48+i % 10).toNat).toNat=_;rw [UInt8.toNat_ofNat'];omega
  right;omega
 ·simp only [Wi,F8] at hj ⊢
  rw [qj x _ j hj];have:=h5 (j % 5);unfold jA;omega
theorem b3w {α:Type} [Inhabited α] {l:List α} {P:α→Prop} (h:∀ a∈l,P a) {n:Nat} (hn:n<l.length):P (gi l n):=by
 simp only [gi,List.getElem?_eq_getElem hn,Option.getD_some];grind
theorem b1q (x:GK) (i:Int):c2z (Wi x i):=by
 refine ⟨by simp [Wi],?_,by simp only [Wi,F8];omega⟩;exact cx (b3w (P:=fun l=>l.length≤5) (by decide) (show x.JQ % 3<UE.length from bb _ (by decide))) (by decide)
theorem a5l (x:GK) (i:Int):(Wi x i).EX.length≤25:=by simp only [Wi,F8];omega
def c5z:Hr:=⟨[],[],⟨0,0⟩,0,[]⟩
end Go.Proofs.YtnjkoebfgcbbdaaGreatDoor
namespace Go.Proofs.YtnjkoebfgcbbdaaGreatDoor
open Go Go.Am Go.Vm
attribute [local irreducible] Aa Aj Ah Ad AP Ap Bd BL Bf Ag Vm.Done BA AB
def ZC (x:OPl):Prop:=(1≤x.ranks.length∧x.ranks.length≤3)∧(1≤x.Af.length∧x.Af.length≤3)∧x.links.length≤3∧∀ i,i<x.Af.length→(gi x.Af i).stops.length≤3
noncomputable instance (x:OPl):Decidable (ZC x):=Classical.propDecidable _
theorem a1e (x:OPl) (hx:x.Ok):Ap env 46 [.agg x.enc] (.p (.bool (decide (ZC x)))):=by
 have b1:=hx.nr;have b2:=hx.nd;have b3:=hx.nl;refine Ap.enter (Ae (by decide)) Tryz.func46 rfl (by kernel_rfl) (by simp [Tryz.ntmps46]) ?_;by_cases h0:(1≤x.ranks.length∧x.ranks.length≤3)∧(1≤x.Af.length∧x.Af.length≤3)∧x.links.length≤3
 case neg =>
  rw [decide_eq_false (fun h=>h0 ⟨h.1,h.2.1,h.2.2.1⟩)]
  repeat' (first|refine O8 ?_|(apply Aj.guard;rfl;rfl)|(apply Ad.AV;rfl)|(apply Ad.Ac;rfl)|(intro _;try (exfalso;omega)))
  all_goals first|(exfalso;omega)|(refine Done.rt rfl rfl ⟨?_,rfl,rfl⟩;try rfl)
 repeat' (first|refine O8 ?_|(apply Aj.guard;rfl;rfl)|(apply Ad.Ac;rfl)|(intro _;try (exfalso;omega)))
 all_goals try (exfalso;omega)
 refine Ad.DJ (fun k:Nat=>[(1,.ref 0 0),(3,.p (.int .i64 (k:Int)))]) (fun _=>[(0,.box 54 (x.enc.map .p))]) 1 (fun k=>k≤x.Af.length∧∀ i,i<k→(gi x.Af i).stops.length≤3) (fun k=>x.Af.length-k) 0 (by omega) ⟨by omega,fun i hi=>by omega⟩ ⟨by omega,?_,?_⟩ ?_
 ·exact C9
 ·exact DT
 rintro k ⟨hk,hok⟩;by_cases hkl:k<x.Af.length
 ·have hst:=(hx.Af k hkl).stops
  by_cases h1:(gi x.Af k).stops.length≤3
  ·repeat' (first|(apply Aa.Ak;rfl;rfl;rfl;omega;rfl)|refine O8 ?_|(apply Ad.Ac;rfl)|(apply Ad.Ar;rfl)|(intro _;try (exfalso;omega)))
   all_goals try (exfalso;omega)
   refine Ag.normal ⟨k+1,⟨by omega,fun i hi=>?_⟩,by omega,⟨by omega,?_,?_⟩⟩
   ·rcases aq i k with h|h
    ·exact hok i h
    ·obtain rfl:i=k:=by omega
     exact h1
   ·exact C9
   ·exact DT
  ·rw [decide_eq_false (fun h=>h1 (h.2.2.2 k hkl))]
   repeat' (first|(apply Aa.Ak;rfl;rfl;rfl;omega;rfl)|refine O8 ?_|(apply Ad.Ac;rfl)|(apply Ad.Ar;rfl)|(intro _;try (exfalso;omega)))
   all_goals first|(exfalso;omega)|(refine Done.rt rfl rfl ⟨?_,rfl,rfl⟩;try rfl)
 ·rw [decide_eq_true (show ZC x from ⟨h0.1,h0.2.1,h0.2.2,fun i hi=>hok i (by omega)⟩)]
  repeat' (first|refine IG ?_|(apply Ad.Ac;rfl)|(intro _;try (exfalso;omega)))
  all_goals first|(exfalso;omega)|(refine Done.rt rfl rfl ⟨?_,rfl,rfl⟩;try rfl)
def a5r (rk:List Hr) (lo hi:Int) (x:Pul) (i:Nat) (s:Stp):Prop :=
 Ap env 115 [.lst 113 (cells rk) rk.length,.agg [.int .i64 lo,.int .i64 hi],.agg (Enc.enc x),.int .i64 (i:Int)] (.p (.agg (Enc.enc s)))∧s.name=N9 83 i∧DV rk lo hi s=0∧nT s∧∃ a,a<6∧s.Eb=gi RS a
noncomputable def Um (rk:List Hr) (lo hi:Int) (x:Pul) (i:Nat):Stp:=Classical.epsilon (h:=⟨default⟩) (a5r rk lo hi x i)
theorem Zy (rk:List Hr) (lo hi:Int) (x:Pul) (i:Nat) (hrk:zO rk) (hc:0≤lo∧lo≤hi∧hi≤127) (hx:x.Ok) (hi9:i≤9):a5r rk lo hi x i (Um rk lo hi x i) :=
 Classical.epsilon_spec (b0r rk lo hi x i hrk hc hx hi9)
def EJ (l:List GK):Nat→List Hr
 |0=>[]
 |k+1=>EJ l k++[Wi (gi l k) (k:Int)]
noncomputable def Gx (rk:List Hr) (lo hi:Int) (l:List Pul):Nat→List Stp
 |0=>[]
 |k+1=>Gx rk lo hi l k++[Um rk lo hi (gi l k) k]
def EO (b:Brd):Int:=36+(b.low:Int) % 12
def Fa (b:Brd):Int:=EO b+(b.keys:Int) % 9
noncomputable def qp (rk:List Hr) (b:Brd) (k:Nat):mX:=⟨N9 68 (k:Int),b.W9,EO b,Fa b,Gx rk (EO b) (Fa b) b.stops b.stops.length⟩
noncomputable def GZ (rk:List Hr) (l:List Brd):Nat→List mX
 |0=>[]
 |k+1=>GZ rk l k++[qp rk (gi l k) k]
def Yc (n:Nat) (c:Lnk) (k:Nat):mW:=⟨N9 67 (k:Int),(c.VD:Int) % n,(c.tgt:Int) % n,if (c.VD:Int) % n=(c.tgt:Int) % n∧c.shift.tmod 25=0 then 12 else c.shift.tmod 25,c.through⟩
def E8 (n:Nat) (l:List Lnk):Nat→List mW
 |0=>[]
 |k+1=>E8 n l k++[Yc n (gi l k) k]
theorem Jp (l:List GK):∀ k,(EJ l k).length=k
 |0=>rfl
 |k+1=>by simp [EJ,Jp l k]
theorem Ic (rk:List Hr) (lo hi:Int) (l:List Pul):∀ k,(Gx rk lo hi l k).length=k
 |0=>rfl
 |k+1=>by simp [Gx,Ic rk lo hi l k]
theorem Nb (rk:List Hr) (l:List Brd):∀ k,(GZ rk l k).length=k
 |0=>rfl
 |k+1=>by simp [GZ,Nb rk l k]
theorem QK (n:Nat) (l:List Lnk):∀ k,(E8 n l k).length=k
 |0=>rfl
 |k+1=>by simp [E8,QK n l k]
noncomputable def aC (x:OPl):Ia:=⟨[79,114,103,97,110],EJ x.ranks x.ranks.length,GZ (EJ x.ranks x.ranks.length) x.Af x.Af.length,E8 x.Af.length x.links x.links.length⟩
theorem H9 {α:Type} [Inhabited α] {l:List α} {a:α} {i:Nat}:gi (l++[a]) i=if i<l.length then gi l i else if i=l.length then a else default:=by
 by_cases h:i<l.length
 ·rw [if_pos h];simp [gi,List.getElem?_append_left h]
 ·rw [if_neg h]
  by_cases h2:i=l.length
  ·rw [if_pos h2,h2];simp [gi]
  ·rw [if_neg h2];simp [gi,List.getElem?_append_right (show l.length≤i by omega),show ¬ i-l.length=0 by omega]
theorem Wv (l:List GK):∀ k i,i<k→gi (EJ l k) i=Wi (gi l i) (i:Int)
 |k+1,i,h=>by
  simp only [EJ,H9,Jp];by_cases h1:i<k
  ·rw [if_pos h1];exact Wv l k i h1
  grind
theorem fU {l:List GK} (h:∀ i,i<l.length→(gi l i).Ok) (hl:0<l.length∧l.length≤3):zO (EJ l l.length):=by
 refine ⟨by rw [Jp];omega,fun i hi=>?_⟩;rw [Jp] at hi;rw [Wv l _ i hi];exact ⟨b7o _ (h i hi) _ (by omega),(gi l i).Eb % 16,bb _ (by decide),rfl⟩
attribute [local irreducible] Wi Um
def c8v (a b c:PV):Vm.HB:=.box 27 [.p (.str (bs [79,114,103,97,110])),a,b,c]
def c9m:Vm.HB:=.box 27 [.p (.str ⟨#[]⟩),.p (.val (.slice none 0 0)),.p (.val (.slice none 0 0)),.p (.val (.slice none 0 0))]
theorem oU (x:OPl) (hx:x.Ok) (hf:ZC x):Ap env 70 [.agg x.enc] (.p (.agg (Enc.enc (aC x)))):=by
 obtain ⟨hf1,hf2,hf3,hf4⟩:=hf;have hR:=fU hx.ranks (by omega);refine Ap.enter (Ae (by decide)) Tryz.func70 rfl (by kernel_rfl) (by simp [Tryz.ntmps70]) ?_
 repeat' (first|refine go2 ?_|(apply Aa.build;rfl;rfl;rfl;rfl;rfl))
 refine Ad.ghost (Aw.EU 2 1 113 rfl rfl) ?_;refine Ad.DJ (fun k:Nat=>[(1,.ref 0 0),(2,.ref 1 0),(3,.ref 2 0),(4,.p (.int .i64 (k:Int)))]) (fun k=>[(3,.vec 113 (cells (EJ x.ranks k)) (EJ x.ranks k).length true),(2,.box 27 [.p (.str (bs [79,114,103,97,110])),.vec 3 (EJ x.ranks k).length 0 (EJ x.ranks k).length,.p (.val (.slice none 0 0)),.p (.val (.slice none 0 0))]),(1,.box 27 [.p (.str ⟨#[]⟩),.p (.val (.slice none 0 0)),.p (.val (.slice none 0 0)),.p (.val (.slice none 0 0))]),(0,.box 54 (x.enc.map .p))]) 4 (fun k=>k≤x.ranks.length) (fun k=>x.ranks.length-k) 0 (by omega) (by omega) ⟨by omega,?_,?_⟩ ?_
 ·exact C9
 ·exact DT
 intro k hk;have hl:=Jp x.ranks k;have e1:EJ x.ranks (k+1)=EJ x.ranks k++[Wi (gi x.ranks k) (k:Int)]:=rfl;have e2:(EJ x.ranks (k+1)).length=(EJ x.ranks k).length+1:=by rw [e1];simp
 by_cases hkl:k<x.ranks.length
 ·have hm:=a0g (gi x.ranks k) (hx.ranks k hkl) k ⟨by omega,by omega⟩
  repeat' (first|(apply Aa.fn;rfl;rfl;exact hm;intro _;rfl)|(apply Aa.Dc (a:=Wi (gi x.ranks k) (k:Int));rfl;rfl;rfl;rfl;rfl;rfl;rfl;rfl;(intro _ h;cases h);rfl;rfl;rfl;decide;decide;(first|omega|(simp only [List.length_take,List.length_drop,List.length_append,List.length_singleton,List.length_cons,List.length_nil]<;>omega)))|(apply Aa.Ak;rfl;rfl;rfl;omega;rfl)|refine IE ?_|(apply Aa.int;rfl;rfl;rfl)|(apply Aa.buildSlice;rfl;rfl;rfl;decide;rfl;rfl;rfl)|(apply Ad.Ac;rfl)|(intro _;try (exfalso;omega)))
  all_goals try (exfalso;omega)
  refine Ag.normal ⟨k+1,by omega,by omega,⟨by omega,?_,?_⟩⟩
  ·exact C9
  ·rw [e2,e1];exact DT
 obtain rfl:k=x.ranks.length:=by omega
 clear e1 e2 hl hkl hk;have eO:aC x=⟨[79,114,103,97,110],EJ x.ranks x.ranks.length,GZ (EJ x.ranks x.ranks.length) x.Af x.Af.length,E8 x.Af.length x.links x.links.length⟩:=rfl;rw [eO];generalize EJ x.ranks x.ranks.length=R at *;clear eO
 repeat' (first|(refine Ad.at 6 ?_;refine Ad.ghost (Aw.trans (Aw.Dn 2 1 rfl rfl rfl) (Aw.trans (Aw.EU 2 2 118 rfl rfl) (Aw.EU 2 3 236 rfl rfl))) ?_;first|apply Ad.Bz|apply Ad.Cm)|refine go0 ?_|apply Ad.Bz|(apply Ad.Ac;rfl)|(intro _;try (exfalso;omega)))
 all_goals try (exfalso;omega)
 refine Ad.DJ (fun k:Nat=>[(1,.ref 0 0),(2,.ref 1 0),(3,.ref 2 0),(5,.p (.int .i64 (k:Int)))]) (fun k=>[(5,.vec 236 [] 0 true),(4,.vec 118 (cells (GZ R x.Af k)) (GZ R x.Af k).length true),(2,.box 27 [.p (.str (bs [79,114,103,97,110])),.p (.lst 113 (cells R) R.length),.vec 4 (GZ R x.Af k).length 0 (GZ R x.Af k).length,.vec 5 0 0 0]),(1,.box 27 [.p (.str ⟨#[]⟩),.p (.val (.slice none 0 0)),.p (.val (.slice none 0 0)),.p (.val (.slice none 0 0))]),(0,.box 54 (x.enc.map .p))]) 6 (fun k=>k≤x.Af.length) (fun k=>x.Af.length-k) 0 (by omega) (by omega) ⟨by omega,?_,?_⟩ ?_
 ·exact C9
 ·exact DT
 intro k hk;have hl:=Nb R x.Af k;have e1:GZ R x.Af (k+1)=GZ R x.Af k++[qp R (gi x.Af k) k]:=rfl;have e2:(GZ R x.Af (k+1)).length=(GZ R x.Af k).length+1:=by rw [e1];simp
 by_cases hkl:k<x.Af.length
 ·obtain ⟨q1,q2,q3,q4⟩:=hx.Af k hkl
  have q5:=hf4 k hkl;have eD:qp R (gi x.Af k) k=⟨N9 68 (k:Int),(gi x.Af k).W9,EO (gi x.Af k),Fa (gi x.Af k),Gx R (EO (gi x.Af k)) (Fa (gi x.Af k)) (gi x.Af k).stops (gi x.Af k).stops.length⟩:=rfl;have hlo:0≤EO (gi x.Af k)∧EO (gi x.Af k)≤Fa (gi x.Af k)∧Fa (gi x.Af k)≤127:=by unfold Fa EO;omega
  have hst:(gi x.Af k).stops.length≤3:=q5
  repeat' (first|(apply Aa.Ak;rfl;rfl;rfl;omega;rfl)|refine IE ?_|(apply Aa.H8;rfl;rfl;rfl;rfl;rfl;omega)|(apply Aa.int;rfl;rfl;rfl)|(apply Aa.build;rfl;rfl;rfl;rfl;rfl)|(apply Aa.buildSlice;rfl;rfl;rfl;decide;rfl;rfl;rfl)|(apply Aa.X0;rfl;rfl;(first|omega|(simp only [List.length_take,List.length_drop,List.length_append,List.length_singleton,List.length_cons,List.length_nil]<;>omega)))|(apply Aa.Hw;rfl;rfl;rfl;rfl;omega)|(apply Aa.Nj;rfl;rfl;rfl;rfl;omega)|(apply Ad.Ac;rfl)|(intro _;try (exfalso;omega)))
  all_goals try (exfalso;omega)
  refine Ad.ghost (Aw.EU 8 4 229 rfl rfl) ?_;refine Ad.DJ (fun j:Nat=>[(1,.ref 0 0),(2,.ref 1 0),(3,.ref 2 0),(5,.p (.int .i64 (k:Int))),(6,.ref 6 0),(7,.p (.int .i64 (EO (gi x.Af k)))),(8,.ref 8 0),(9,.p (.int .i64 (j:Int)))]) (fun j=>[(9,.vec 229 (cells (Gx R (EO (gi x.Af k)) (Fa (gi x.Af k)) (gi x.Af k).stops j)) (Gx R (EO (gi x.Af k)) (Fa (gi x.Af k)) (gi x.Af k).stops j).length true),(8,.box 118 [.p (.str (bs (N9 68 (k:Int)))),.p (.bool (gi x.Af k).W9),.p (.int .i64 (EO (gi x.Af k))),.p (.int .i64 (Fa (gi x.Af k))),.vec 9 (Gx R (EO (gi x.Af k)) (Fa (gi x.Af k)) (gi x.Af k).stops j).length 0 (Gx R (EO (gi x.Af k)) (Fa (gi x.Af k)) (gi x.Af k).stops j).length]),(6,.box 211 ((Enc.enc (gi x.Af k)).map .p)),(5,.vec 236 [] 0 true),(4,.vec 118 (cells (GZ R x.Af k)) (GZ R x.Af k).length true),(2,.box 27 [.p (.str (bs [79,114,103,97,110])),.p (.lst 113 (cells R) R.length),.vec 4 (GZ R x.Af k).length 0 (GZ R x.Af k).length,.vec 5 0 0 0]),(1,.box 27 [.p (.str ⟨#[]⟩),.p (.val (.slice none 0 0)),.p (.val (.slice none 0 0)),.p (.val (.slice none 0 0))]),(0,.box 54 (x.enc.map .p))]) 10 (fun j=>j≤(gi x.Af k).stops.length) (fun j=>(gi x.Af k).stops.length-j) 0 (by omega) (by omega) ⟨by omega,?_,?_⟩ ?_
  ·exact C9
  ·exact DT
  intro j hj;have jl:=Ic R (EO (gi x.Af k)) (Fa (gi x.Af k)) (gi x.Af k).stops j;have j1:Gx R (EO (gi x.Af k)) (Fa (gi x.Af k)) (gi x.Af k).stops (j+1)=Gx R (EO (gi x.Af k)) (Fa (gi x.Af k)) (gi x.Af k).stops j++[Um R (EO (gi x.Af k)) (Fa (gi x.Af k)) (gi (gi x.Af k).stops j) j]:=rfl;have j2:(Gx R (EO (gi x.Af k)) (Fa (gi x.Af k)) (gi x.Af k).stops (j+1)).length=(Gx R (EO (gi x.Af k)) (Fa (gi x.Af k)) (gi x.Af k).stops j).length+1:=by rw [j1];simp
  by_cases hjl:j<(gi x.Af k).stops.length
  ·have hp:=(Zy R (EO (gi x.Af k)) (Fa (gi x.Af k)) (gi (gi x.Af k).stops j) j hR hlo (q4 j hjl) (by omega)).1
   repeat' (first|(apply Aa.fn;rfl;rfl;exact hp;intro _;rfl)|(apply Aa.Dc (a:=Um R (EO (gi x.Af k)) (Fa (gi x.Af k)) (gi (gi x.Af k).stops j) j);rfl;rfl;rfl;rfl;rfl;rfl;rfl;rfl;(intro _ h;cases h);rfl;rfl;rfl;decide;decide;(first|omega|(simp only [List.length_take,List.length_drop,List.length_append,List.length_singleton,List.length_cons,List.length_nil]<;>omega)))|(apply Aa.Ak;rfl;rfl;rfl;omega;rfl)|refine IE ?_|(apply Aa.int;rfl;rfl;rfl)|(apply Aa.buildSlice;rfl;rfl;rfl;decide;rfl;rfl;rfl)|(apply Ad.Ac;rfl)|(intro _;try (exfalso;omega)))
   all_goals try (exfalso;omega)
   refine Ag.normal ⟨j+1,by omega,by omega,⟨by omega,?_,?_⟩⟩
   ·exact C9
   ·rw [j2,j1];exact DT
  obtain rfl:j=(gi x.Af k).stops.length:=by omega
  repeat' (first|(refine Ad.atEnd 16 ?_;refine Ad.ghost (Aw.Dn 8 4 rfl rfl rfl) ?_;first|apply Ad.region|apply Ad.Fg)|(apply Aa.Dc (a:=qp R (gi x.Af k) k);rfl;rfl;rfl;rfl;rfl;rfl;rfl;rfl;(intro _ h;cases h);rfl;rfl;rfl;decide;decide;(first|omega|(simp only [List.length_take,List.length_drop,List.length_append,List.length_singleton,List.length_cons,List.length_nil]<;>omega)))|refine go1 ?_|apply Ad.Bz|apply Ad.region|(apply Aa.int;rfl;rfl;rfl)|(apply Aa.buildSlice;rfl;rfl;rfl;decide;rfl;rfl;rfl)|(apply Ad.Ac;rfl)|(intro _;try (exfalso;omega)))
  all_goals try (exfalso;omega)
  refine Ag.normal ⟨k+1,by omega,by omega,⟨by omega,?_,?_⟩⟩
  ·exact C9
  ·rw [e2,e1];exact DT
 obtain rfl:k=x.Af.length:=by omega
 clear e1 e2 hl hkl hk;have hDl:=Nb R x.Af x.Af.length;generalize GZ R x.Af x.Af.length=D at *
 repeat' (first|(refine Ad.at 17 ?_;refine Ad.ghost (Aw.Dn 2 2 rfl rfl rfl) ?_;first|apply Ad.Bz|apply Ad.Cm)|refine go0 ?_|apply Ad.Bz|(apply Ad.Ac;rfl)|(intro _;try (exfalso;omega)))
 all_goals try (exfalso;omega)
 refine Ad.DJ (fun k:Nat=>[(1,.ref 0 0),(2,.ref 1 0),(3,.ref 2 0),(10,.p (.int .i64 (x.Af.length:Int))),(11,.p (.int .i64 (k:Int)))]) (fun k=>[(5,.vec 236 (cells (E8 x.Af.length x.links k)) (E8 x.Af.length x.links k).length true),(2,.box 27 [.p (.str (bs [79,114,103,97,110])),.p (.lst 113 (cells R) R.length),.p (.lst 118 (cells D) D.length),.vec 5 (E8 x.Af.length x.links k).length 0 (E8 x.Af.length x.links k).length]),(1,.box 27 [.p (.str ⟨#[]⟩),.p (.val (.slice none 0 0)),.p (.val (.slice none 0 0)),.p (.val (.slice none 0 0))]),(0,.box 54 (x.enc.map .p))]) 6 (fun k=>k≤x.links.length) (fun k=>x.links.length-k) 0 (by omega) (by omega) ⟨by omega,?_,?_⟩ ?_
 ·exact C9
 ·exact DT
 intro k hk;have hl:=QK x.Af.length x.links k;by_cases hkl:k<x.links.length
 ·obtain ⟨q1,q2,q3⟩:=hx.links k hkl
  have hne:((gi x.links k).VD:Int) % x.Af.length≥0:=bz _ (by omega);by_cases c1:((gi x.links k).VD:Int) % x.Af.length=((gi x.links k).tgt:Int) % x.Af.length
  ·by_cases c2:(gi x.links k).shift.tmod 25=0
   ·have e1:E8 x.Af.length x.links (k+1)=E8 x.Af.length x.links k++[(⟨N9 67 (k:Int),((gi x.links k).VD:Int) % x.Af.length,((gi x.links k).tgt:Int) % x.Af.length,12,(gi x.links k).through⟩:mW)]:=by
     show E8 x.Af.length x.links k++[Yc x.Af.length (gi x.links k) k]=_;unfold Yc;rw [if_pos ⟨c1,c2⟩]
    have e2:(E8 x.Af.length x.links (k+1)).length=(E8 x.Af.length x.links k).length+1:=by rw [e1];simp
    repeat' (first|(apply Aa.Dc (a:=(⟨N9 67 (k:Int),((gi x.links k).VD:Int) % x.Af.length,((gi x.links k).tgt:Int) % x.Af.length,12,(gi x.links k).through⟩:mW));rfl;rfl;rfl;rfl;rfl;rfl;rfl;rfl;(intro _ h;cases h);rfl;rfl;rfl;decide;decide;(first|omega|(simp only [List.length_take,List.length_drop,List.length_append,List.length_singleton,List.length_cons,List.length_nil]<;>omega)))|(apply Aa.Ak;rfl;rfl;rfl;omega;rfl)|refine IE ?_|(apply Aj.guard;rfl;rfl)|(apply Aa.H8;rfl;rfl;rfl;rfl;rfl;omega)|(apply Aa.int;rfl;rfl;rfl)|(apply Aa.build;rfl;rfl;rfl;rfl;rfl)|(apply Aa.buildSlice;rfl;rfl;rfl;decide;rfl;rfl;rfl)|(apply Aa.X0;rfl;rfl;(first|omega|(simp only [List.length_take,List.length_drop,List.length_append,List.length_singleton,List.length_cons,List.length_nil]<;>omega)))|(apply Aa.Hw;rfl;rfl;rfl;rfl;omega)|(apply Aa.Nj;rfl;rfl;rfl;rfl;omega)|(apply Ad.Ac;rfl)|(intro _;try (exfalso;omega)))
    all_goals try (exfalso;omega)
    refine Ag.normal ⟨k+1,by omega,by omega,⟨by omega,?_,?_⟩⟩
    ·exact C9
    ·rw [e2,e1];exact DT
   ·have e1:E8 x.Af.length x.links (k+1)=E8 x.Af.length x.links k++[(⟨N9 67 (k:Int),((gi x.links k).VD:Int) % x.Af.length,((gi x.links k).tgt:Int) % x.Af.length,(gi x.links k).shift.tmod 25,(gi x.links k).through⟩:mW)]:=by
     show E8 x.Af.length x.links k++[Yc x.Af.length (gi x.links k) k]=_;unfold Yc;rw [if_neg (fun h=>c2 h.2)]
    have e2:(E8 x.Af.length x.links (k+1)).length=(E8 x.Af.length x.links k).length+1:=by rw [e1];simp
    repeat' (first|(apply Aa.Dc (a:=(⟨N9 67 (k:Int),((gi x.links k).VD:Int) % x.Af.length,((gi x.links k).tgt:Int) % x.Af.length,(gi x.links k).shift.tmod 25,(gi x.links k).through⟩:mW));rfl;rfl;rfl;rfl;rfl;rfl;rfl;rfl;(intro _ h;cases h);rfl;rfl;rfl;decide;decide;(first|omega|(simp only [List.length_take,List.length_drop,List.length_append,List.length_singleton,List.length_cons,List.length_nil]<;>omega)))|(apply Aa.Ak;rfl;rfl;rfl;omega;rfl)|refine IE ?_|(apply Aj.guard;rfl;rfl)|(apply Aa.H8;rfl;rfl;rfl;rfl;rfl;omega)|(apply Aa.int;rfl;rfl;rfl)|(apply Aa.build;rfl;rfl;rfl;rfl;rfl)|(apply Aa.buildSlice;rfl;rfl;rfl;decide;rfl;rfl;rfl)|(apply Aa.X0;rfl;rfl;(first|omega|(simp only [List.length_take,List.length_drop,List.length_append,List.length_singleton,List.length_cons,List.length_nil]<;>omega)))|(apply Aa.Hw;rfl;rfl;rfl;rfl;omega)|(apply Aa.Nj;rfl;rfl;rfl;rfl;omega)|(apply Ad.Ac;rfl)|(intro _;try (exfalso;omega)))
    all_goals try (exfalso;omega)
    refine Ag.normal ⟨k+1,by omega,by omega,⟨by omega,?_,?_⟩⟩
    ·exact C9
    ·rw [e2,e1];exact DT
  ·have e1:E8 x.Af.length x.links (k+1)=E8 x.Af.length x.links k++[(⟨N9 67 (k:Int),((gi x.links k).VD:Int) % x.Af.length,((gi x.links k).tgt:Int) % x.Af.length,(gi x.links k).shift.tmod 25,(gi x.links k).through⟩:mW)]:=by
    show E8 x.Af.length x.links k++[Yc x.Af.length (gi x.links k) k]=_;unfold Yc;rw [if_neg (fun h=>c1 h.1)]
   have e2:(E8 x.Af.length x.links (k+1)).length=(E8 x.Af.length x.links k).length+1:=by rw [e1];simp
   repeat' (first|(apply Aa.Dc (a:=(⟨N9 67 (k:Int),((gi x.links k).VD:Int) % x.Af.length,((gi x.links k).tgt:Int) % x.Af.length,(gi x.links k).shift.tmod 25,(gi x.links k).through⟩:mW));rfl;rfl;rfl;rfl;rfl;rfl;rfl;rfl;(intro _ h;cases h);rfl;rfl;rfl;decide;decide;(first|omega|(simp only [List.length_take,List.length_drop,List.length_append,List.length_singleton,List.length_cons,List.length_nil]<;>omega)))|(apply Aa.Ak;rfl;rfl;rfl;omega;rfl)|refine IE ?_|(apply Aj.guard;rfl;rfl)|(apply Aa.H8;rfl;rfl;rfl;rfl;rfl;omega)|(apply Aa.int;rfl;rfl;rfl)|(apply Aa.build;rfl;rfl;rfl;rfl;rfl)|(apply Aa.buildSlice;rfl;rfl;rfl;decide;rfl;rfl;rfl)|(apply Aa.X0;rfl;rfl;(first|omega|(simp only [List.length_take,List.length_drop,List.length_append,List.length_singleton,List.length_cons,List.length_nil]<;>omega)))|(apply Aa.Hw;rfl;rfl;rfl;rfl;omega)|(apply Aa.Nj;rfl;rfl;rfl;rfl;omega)|(apply Ad.Ai;rfl)|(apply Ad.Ac;rfl)|(intro _;try (exfalso;omega)))
   all_goals try (exfalso;omega)
   refine Ag.normal ⟨k+1,by omega,by omega,⟨by omega,?_,?_⟩⟩
   ·exact C9
   ·rw [e2,e1];exact DT
 obtain rfl:k=x.links.length:=by omega
 repeat' (first|(refine Ad.at 26 ?_;refine Ad.ghost (Aw.Dn 2 3 rfl rfl rfl) ?_;first|apply Ad.Bz|apply Ad.Cm)|refine go0 ?_|apply Ad.Bz|(apply Ad.Ac;rfl)|(intro _;try (exfalso;omega)))
 all_goals first|(exfalso;omega)|(refine Done.rt rfl rfl ⟨?_,rfl,rfl⟩;rfl)
attribute [local irreducible] Ce Ba AZ
theorem oG (rk:List Hr) (l:List Brd):∀ k i,i<k→gi (GZ rk l k) i=qp rk (gi l i) i
 |k+1,i,h=>by
  simp only [GZ,H9,Nb];by_cases h1:i<k
  ·rw [if_pos h1];exact oG rk l k i h1
  grind
theorem iF (rk:List Hr) (lo hi:Int) (l:List Pul):∀ k i,i<k→gi (Gx rk lo hi l k) i=Um rk lo hi (gi l i) i
 |k+1,i,h=>by
  simp only [Gx,H9,Ic];by_cases h1:i<k
  ·rw [if_pos h1];exact iF rk lo hi l k i h1
  grind
theorem sD (n:Nat) (l:List Lnk):∀ k i,i<k→gi (E8 n l k) i=Yc n (gi l i) i
 |k+1,i,h=>by
  simp only [E8,H9,QK];by_cases h1:i<k
  ·rw [if_pos h1];exact sD n l k i h1
  grind
theorem a6o (b:Brd):0≤EO b∧EO b≤Fa b∧Fa b≤127:=by unfold Fa EO;omega
structure wB (o:Ia):Prop where
 sm:TW o
 ranks:1≤o.ranks.length∧o.ranks.length≤3
 Af:1≤o.Af.length∧o.Af.length≤3
 II:o.II.length≤3
 stops:∀ i,i<o.Af.length→(gi o.Af i).stops.length≤3
 rk:zO o.ranks
 dv:∀ i,i<o.Af.length→0≤(gi o.Af i).lo∧(gi o.Af i).lo≤(gi o.Af i).hi∧(gi o.Af i).hi≤127
 dn:∀ i,i<o.Af.length→(gi o.Af i).name=N9 68 i
 st:∀ i,i<o.Af.length→∀ j,j<(gi o.Af i).stops.length→DV o.ranks (gi o.Af i).lo (gi o.Af i).hi (gi (gi o.Af i).stops j)=0∧(gi (gi o.Af i).stops j).name=N9 83 j∧∃ a,a<6∧(gi (gi o.Af i).stops j).Eb=gi RS a
 cp:∀ i,i<o.II.length→a7z o.Af.length (gi o.II i)∧(gi o.II i).name=N9 67 i
 rn:∀ i,i<o.ranks.length→(gi o.ranks i).name=N9 82 i
 nm:o.name=[79,114,103,97,110]
theorem b2k (n:Nat) (c:Lnk) (k:Nat) (hn:1≤n) (hc:c.Ok) (hk:k<10):a7z n (Yc n c k):=by
 obtain ⟨c1,c2,c3⟩:=hc;have m1:=bz (c.VD:Int) (show (n:Int)≠0 by omega);have m2:=bw (c.VD:Int) (show 0<(n:Int) by omega);have m3:=bz (c.tgt:Int) (show (n:Int)≠0 by omega);have m4:=bw (c.tgt:Int) (show 0<(n:Int) by omega);refine ⟨uI (by decide) hk,⟨m1,m2⟩,⟨m3,m4⟩,?_,?_⟩
 ·have e:(Yc n c k).shift=if (c.VD:Int) % n=(c.tgt:Int) % n∧c.shift.tmod 25=0 then 12 else c.shift.tmod 25:=rfl
  grind
 ·show ¬ ((c.VD:Int) % n=(c.tgt:Int) % n∧(if (c.VD:Int) % n=(c.tgt:Int) % n∧c.shift.tmod 25=0 then (12:Int) else c.shift.tmod 25)=0)
  omega
theorem b6o (x:GK) (i:Int):gX (Wi x i):=by
 have h:=b1q x i;have w:=a5l x i;unfold Wi at h w ⊢;refine ⟨by simp,?_,by omega⟩;have:(gi UE (x.JQ % 3)).length≤5:=b3w (P:=fun l:List UInt8=>l.length≤5) (by decide) (show x.JQ % 3<UE.length from bb _ (by decide));grind
theorem a6b (x:GK) (i:Nat) (hi:i<10):(Wi x i).name=N9 82 i:=by
 unfold Wi N9;grind
theorem qQ (x:OPl) (hx:x.Ok) (hf:ZC x):wB (aC x):=by
 obtain ⟨hf1,hf2,hf3,hf4⟩:=hf;have hR:=fU hx.ranks (by omega);have e1:(aC x).ranks=EJ x.ranks x.ranks.length:=rfl;have e2:(aC x).Af=GZ (EJ x.ranks x.ranks.length) x.Af x.Af.length:=rfl;have e3:(aC x).II=E8 x.Af.length x.links x.links.length:=rfl;have e4:(aC x).name=[79,114,103,97,110]:=rfl;have rn:∀ i,i<x.ranks.length→gi (EJ x.ranks x.ranks.length) i=Wi (gi x.ranks i) (i:Int):=Wv _ _;generalize hRR:EJ x.ranks x.ranks.length=R at *;have hRl:R.length=x.ranks.length:=by rw [← hRR,Jp]
 have dl:=Nb R x.Af x.Af.length;have cl:=QK x.Af.length x.links x.links.length;have dg:∀ i,i<x.Af.length→gi (GZ R x.Af x.Af.length) i=qp R (gi x.Af i) i:=oG _ _ _;have cg:∀ i,i<x.links.length→gi (E8 x.Af.length x.links x.links.length) i=Yc x.Af.length (gi x.links i) i:=sD _ _ _;have ds:∀ b k,(qp R b k).stops=Gx R (EO b) (Fa b) b.stops b.stops.length:=fun _ _=>rfl
 have sp:∀ i,i<x.Af.length→∀ j,j<(gi x.Af i).stops.length→gi (Gx R (EO (gi x.Af i)) (Fa (gi x.Af i)) (gi x.Af i).stops (gi x.Af i).stops.length) j=Um R (EO (gi x.Af i)) (Fa (gi x.Af i)) (gi (gi x.Af i).stops j) j∧a5r R (EO (gi x.Af i)) (Fa (gi x.Af i)) (gi (gi x.Af i).stops j) j (Um R (EO (gi x.Af i)) (Fa (gi x.Af i)) (gi (gi x.Af i).stops j) j):=fun i hi j hj =>
  ⟨iF _ _ _ _ _ _ hj,Zy R _ _ _ j hR (a6o _) ((hx.Af i hi).all j hj) (by have:=hf4 i hi;omega)⟩
 refine ⟨⟨by rw [e4];simp,by rw [e1];omega,by rw [e2];omega,by rw [e3];omega,fun i hi=>?_,fun i hi=>?_,fun i hi=>?_⟩,by rw [e1];omega,by rw [e2];omega,by rw [e3];omega,fun i hi=>?_,by rw [e1];exact hR,fun i hi=>?_,fun i hi=>?_,fun i hi j hj=>?_,fun i hi=>?_,fun i hi=>?_,e4⟩
 ·rw [e1] at hi ⊢;rw [rn i (by omega)];exact b6o _ _
 ·rw [e2] at hi ⊢;rw [dg i (by omega)]
  refine ⟨by simp [qp,N9],by rw [ds,Ic];have:=hf4 i (by omega);omega,fun j hj=>?_⟩;rw [ds,Ic] at hj;rw [ds,(sp i (by omega) j hj).1];exact (sp i (by omega) j hj).2.2.2.2.1
 ·rw [e3] at hi ⊢;rw [cg i (by omega)];simp [Yc,N9]
 ·rw [e2] at hi ⊢;rw [dg i (by omega),ds,Ic];exact hf4 i (by omega)
 ·rw [e2] at hi ⊢;rw [dg i (by omega)];exact a6o _
 ·rw [e2] at hi ⊢;rw [dg i (by omega)];rfl
 ·rw [e2] at hi hj ⊢;rw [dg i (by omega),ds,Ic] at hj;rw [e1,dg i (by omega),ds,(sp i (by omega) j hj).1]
  exact ⟨(sp i (by omega) j hj).2.2.2.1,(sp i (by omega) j hj).2.2.1,(sp i (by omega) j hj).2.2.2.2.2⟩
 ·rw [e3] at hi ⊢;rw [e2,dl,cg i (by omega)]
  exact ⟨b2k _ _ _ (by omega) (hx.links i (by omega)) (by omega),rfl⟩
 ·rw [e1] at hi ⊢;rw [rn i (by omega)];exact a6b _ _ (by omega)
theorem b7h:DF [79,114,103,97,110]:=by
 refine ⟨by decide,by decide,by decide,fun i h1 h2=>?_⟩;have:i=1∨i=2∨i=3∨i=4:=by simp at h2;omega
 rcases this with rfl|rfl|rfl|rfl<;>exact .inl (by decide)
theorem wB.ok {o:Ia} (h:wB o):V3 o=0:=by
 have r1:=h.ranks;have d1:=h.Af;have c1:=h.II;unfold V3;rw [if_neg (fun h'=>h' (h.nm▸b7h)),if_neg (by omega)];have hr:PI o.ranks 0=0:=Vy (fun i hi=>⟨(h.rk.ok i hi).1,jE (c:=82) (by omega) h.rn hi⟩) _ 0 rfl;rw [if_neg (fun h'=>h' hr),if_neg (by omega),if_neg (by omega)];have hd:GL o.ranks o.Af 0=0:=Tm (fun i hi=>by
  have s1:=h.stops i hi;refine ⟨by rw [h.dn i hi];exact uI (by decide) (by omega),jE (c:=68) (by omega) h.dn hi,?_⟩;unfold DN;rw [Vw (h.dv i hi),if_neg (fun h=>h rfl),if_neg (by omega)];exact SQ (fun j hj=>⟨(h.st i hi j hj).1,jE (c:=83) (by omega) (fun a ha=>(h.st i hi a ha).2.1) hj⟩) _ 0 rfl) _ 0 rfl
 rw [if_neg (fun h'=>h' hd)];unfold En;rw [if_neg (by grind)];have hc:Tt (o.Af.map fun d=>⟨d.lo,d.hi⟩) 0=0:=Vu (fun i hi=>by
  rw [bh] at hi;have e:gi (o.Af.map fun d=>(⟨d.lo,d.hi⟩:mY)) i=⟨(gi o.Af i).lo,(gi o.Af i).hi⟩:=by simp [gi,List.getElem?_eq_getElem hi]
  rw [e];exact Vw (h.dv i hi)) _ 0 rfl
 rw [if_neg (fun h'=>h' hc),bh];exact SX (fun i hi=>⟨(h.cp i hi).1,jE (c:=67) (by omega) (fun a ha=>(h.cp a ha).2) hi⟩) _ 0 rfl
end Go.Proofs.YtnjkoebfgcbbdaaGreatDoor
namespace Go.Proofs.YtnjkoebfgcbbdaaGreatDoor
open Go Go.Am Go.Vm
attribute [local irreducible] Aa Aj Ah Ad AP Ap Bd BL Bf Ag Vm.Done BA AB
attribute [local irreducible] Ce Ba
theorem aV (lo hi:Int):Ap env 110 [.agg [.int .i64 lo,.int .i64 hi]] (.p (.int .i64 (X3 lo hi))):=by
 unfold X3;refine Ap.enter (Ae (by decide)) Tryz.func110 rfl (by kernel_rfl) (by simp) ?_
 repeat' (first|refine O8 ?_|(apply Aj.guard;rfl;rfl)|(apply Ad.cond_true;rfl)|(apply Ad.Ar;rfl)|(intro _))
 all_goals first
  |(rw [if_pos (by omega)];(refine Done.rt rfl rfl ⟨?_,rfl,rfl⟩;try rfl);done)
  |(rw [if_neg (by omega),if_pos (by omega)];(refine Done.rt rfl rfl ⟨?_,rfl,rfl⟩;try rfl);done)
  |(rw [if_neg (by omega),if_neg (by omega)];(refine Done.rt rfl rfl ⟨?_,rfl,rfl⟩;try rfl);done)
theorem oM:Za Tryz.prog 270=true:=by kernel_rfl
theorem b5w (x y:sZ):Vm.kU Tryz.prog 270 (Enc.enc x) (Enc.enc y)=some (decide (x=y)):=by
 show some (decide (x.rank=y.rank)&&(decide (x.shift=y.shift)&&true))=_;by_cases h:x=y
 ·grind
 ·have:¬ (x.rank=y.rank∧x.shift=y.shift):=fun h'=>h (by cases x;simp_all)
  by_cases h1:x.rank=y.rank<;>simp_all
theorem aS {α:Type} [Inhabited α] {a:α} {l:List α}:a∈l↔∃ i,i<l.length∧gi l i=a:=by
 constructor
 ·intro h
  obtain ⟨i,hi,e⟩:=dr h;exact ⟨i,hi,by simp [gi,List.getElem?_eq_getElem hi,e]⟩
 ·rintro ⟨i,hi,e⟩
  rw [← e];simp only [gi,List.getElem?_eq_getElem hi,Option.getD_some];simp
theorem Yv {α:Type} [Inhabited α] {l:List α} {i k:Nat} (h:i<k):gi (l.take k) i=gi l i:=by simp [gi,List.getElem?_take,h]
theorem DX {α:Type} [Inhabited α] {l:List α} {k:Nat} (hk:k<l.length):l.take (k+1)=l.take k++[gi l k]:=by
 simp [gi,List.getElem?_eq_getElem hk]
theorem b1h {L:Vm.Frame} {H:Vm.Heap} {nx:Nat} {Q:PV→Vm.Heap→Nat→Prop} {dst:Option Tmp} {ty:TypeId} {pos:String} {af:Array Edge} {gd:Option (Nat×Bool)} {fo:Operand} {args:Array Operand} {aT:Array TypeId} {fs cs xs:List PV} {c:Code}
 (hf:AU env.Γ L fo=some (.clo 206 fs cs)) (ha:evs env.Γ L args.toList=some xs) (hb:Tryz.f206.body=some c) (hn:(fs++xs++cs).length≤Tryz.f206.ntmps)
 (h:Ad env nx c (Ci 0 (fs++xs++cs)) H nx (AB env.P Tryz.f206.results.toList Q)):Aa env true ⟨dst,.call { callee:=.value fo,args:=args,argTypes:=aT },ty,pos,af,gd⟩ L H nx Q:=by
 have h0:(match Tryz.f206.body with|some c=>Iz env.G Tryz.f206 c|none=>false)=true:=by kernel_rfl
 rw [hb] at h0;exact Aa.inline rfl hf ha (Ae (by decide)) Tryz.func206 hb h0 hn h
theorem dR (l:List sZ) (d:sZ) (hl:l.length<1000000):Ap env 199 [.lst 270 (cells l) l.length,.agg (Enc.enc d)] (.p (.bool (decide (d∈l)))):=by
 refine Ap.enter (Ae (by decide)) Tryz.func199 rfl (by kernel_rfl) (by simp) ?_
 repeat' (first|(apply b1h;rfl;rfl;rfl;exact le_dec rfl)|refine go2 ?_|fail)
 refine Ad.DJ (fun k:Nat=>[(0,lst 270 l),(3,.ref 1 0),(7,.p (.int .i64 (l.length:Int))),(8,.p (.int .i64 (k:Int)))]) (fun _=>[(1,.box 270 ((Enc.enc d).map .p)),(0,.box 270 ((Enc.enc d).map .p))]) 2 (fun k=>k≤l.length∧∀ i,i<k→d≠gi l i) (fun k=>l.length-k) 0 (by omega) ⟨by omega,fun i hi=>by omega⟩ ⟨by omega,?_,?_⟩ ?_
 ·exact C9
 ·exact DT
 rintro k ⟨hk,hok⟩;have he:=b5w d (gi l k);by_cases hd:d=gi l k
 ·rw [decide_eq_true hd] at he
  repeat' (first|(apply Aa.b3i;rfl;rfl;exact oM;exact he)|(apply Aa.Ak;rfl;rfl;rfl;omega;rfl)|refine go2 ?_|(apply AB.ret;rfl)|(apply Aa.int;rfl;rfl;rfl)|(apply Ad.Ac;rfl)|(apply Ad.cond_true;rfl)|(intro _;try (exfalso;omega)))
  ·rename_i a1
   rw [decide_eq_true (aS.2 ⟨k,by omega,hd.symm⟩)];refine Done.rt rfl rfl ⟨?_,rfl,rfl⟩;rfl
  ·rename_i a1
   rw [decide_eq_false (fun h=>by obtain ⟨i,h1,h2⟩:=aS.1 h;grind)]
   (refine Done.rt rfl rfl ⟨?_,rfl,rfl⟩;try rfl)
 ·rw [decide_eq_false hd] at he
  repeat' (first|(apply Aa.b3i;rfl;rfl;exact oM;exact he)|(apply Aa.Ak;rfl;rfl;rfl;omega;rfl)|refine go2 ?_|(apply AB.ret;rfl)|(apply Aa.int;rfl;rfl;rfl)|(apply Ad.Ac;rfl)|(apply Ad.cond_false;rfl)|(intro _;try (exfalso;omega)))
  ·rename_i a1
   refine Ag.normal ⟨k+1,⟨by omega,fun i hi=>?_⟩,by omega,⟨by omega,?_,?_⟩⟩
   ·grind
   ·exact C9
   ·exact DT
  ·rename_i a1
   rw [decide_eq_false (fun h=>by obtain ⟨i,h1,h2⟩:=aS.1 h;exact hok i (by omega) h2.symm)]
   (refine Done.rt rfl rfl ⟨?_,rfl,rfl⟩;try rfl)
def a3n (rk:List Hr) (lo hi:Int):List FV:=[.lst 113 (cells rk) rk.length,.int .i64 lo,.int .i64 hi]
theorem wK (rk:List Hr) (lo hi:Int) (l:List sZ) (hl:l.length<1000000) (hr:rk.length<1000000):Ap env 182 [.agg (a3n rk lo hi),.lst 270 (cells l) l.length] (.p (.int .i64 (Ze rk.length l))):=by
 unfold Ze;refine Ap.enter (Ae (by decide)) Tryz.func182 rfl (by kernel_rfl) (by simp [Tryz.ntmps182]) ?_
 repeat' (first|refine IG ?_|(apply Ad.Ac;rfl)|(intro _;try (exfalso;omega)))
 ·rw [if_pos (by omega)];(refine Done.rt rfl rfl ⟨?_,rfl,rfl⟩;try rfl)
 rw [if_neg (by omega)];refine Ad.DJ (fun k:Nat=>[(1,lst 270 l),(2,.ref 0 0),(10,lst 270 l),(11,.p (.int .i64 (l.length:Int))),(12,.p (.int .i64 (k:Int)))]) (fun _=>[(0,.box 277 ((a3n rk lo hi).map .p))]) 1 (fun k=>k≤l.length∧Rw rk.length l k=Rw rk.length l 0) (fun k=>l.length-k) 0 (by omega) ⟨by omega,rfl⟩ ⟨by omega,?_,?_⟩ ?_
 ·exact C9
 ·exact DT
 rintro k ⟨hk,hE⟩;have hc:=dR (l.take k) (gi l k) (by rw [ax];omega);rw [ax,cI (by omega)] at hc;rw [← hE];by_cases hkl:k<l.length
 ·rw [Rw,if_pos hkl]
  generalize hg:decide (gi l k∈l.take k)=g at *;cases g;all_goals
   repeat' (first|(apply Aa.fn;rfl;rfl;exact hc;intro _;rfl)|(apply Aa.Ak;rfl;rfl;rfl;omega;rfl)|refine IE ?_|apply Ad.Hq|(apply Aj.guard;rfl;rfl)|(apply Aa.sliceTo;rfl;rfl;rfl;rfl;rfl;rfl;omega)|(apply Aa.int;rfl;rfl;rfl)|(apply Ad.Ac;rfl)|(apply Ad.cond_true;rfl)|(apply Ad.cond_false;rfl)|(apply Ad.Ar;rfl)|(intro _;try (exfalso;omega)))
  all_goals try (exfalso;omega)
  all_goals first
   |(rw [if_pos (by omega)];(refine Done.rt rfl rfl ⟨?_,rfl,rfl⟩;try rfl);done)
   |(rw [if_neg (by omega),if_pos (by omega)];(refine Done.rt rfl rfl ⟨?_,rfl,rfl⟩;try rfl);done)
   |(rw [if_neg (by omega),if_neg (by omega),if_pos (of_decide_eq_true hg)];(refine Done.rt rfl rfl ⟨?_,rfl,rfl⟩;try rfl);done)
   |(rw [if_neg (by omega),if_neg (by omega),if_neg (of_decide_eq_false hg)]
     refine Ag.normal ⟨k+1,⟨by omega,?_⟩,by omega,⟨by omega,?_,?_⟩⟩
     ·first|rfl|(refine ef ?_ hE;symm;(conv=>lhs;rw [Rw]);rw [if_pos hkl,if_neg (by omega),if_neg (by omega),if_neg (of_decide_eq_false hg)])
     ·exact C9
     ·exact DT)
 ·rw [Rw,if_neg hkl]
  repeat' (first|refine IG ?_|(apply Ad.Ac;rfl)|(intro _;try (exfalso;omega)))
  all_goals first|(exfalso;omega)|(refine Done.rt rfl rfl ⟨?_,rfl,rfl⟩;try rfl)
theorem vJ (rk:List Hr) (lo hi:Int) (hr:rk.length<1000000) (hs:∀ i,i<rk.length→gX (gi rk i)):Ap env 181 [.agg (a3n rk lo hi)] (.p (.int .i64 (qP rk lo hi))):=by
 have hcm:=aV lo hi;unfold qP;refine Ap.enter (Ae (by decide)) Tryz.func181 rfl (by kernel_rfl) (by simp) ?_
 repeat' (first|refine IG ?_|(apply Ad.Ac;rfl)|(intro _;try (exfalso;omega)))
 ·rw [if_pos (by omega)];(refine Done.rt rfl rfl ⟨?_,rfl,rfl⟩;try rfl)
 rw [if_neg (by omega)];refine Ad.DJ (fun k:Nat=>[(1,.ref 0 0),(11,lst 113 rk),(12,.p (.int .i64 (rk.length:Int))),(13,.p (.int .i64 (k:Int)))]) (fun _=>[(0,.box 277 ((a3n rk lo hi).map .p))]) 1 (fun k=>k≤rk.length∧dV rk k=dV rk 0) (fun k=>rk.length-k) 0 (by omega) ⟨by omega,rfl⟩ ⟨by omega,?_,?_⟩ ?_
 ·exact C9
 ·exact DT
 rintro k ⟨hk,hE⟩;rw [← hE];by_cases hkl:k<rk.length
 ·have hsm:=(hs k hkl).len
  have hc:=Xf (gi rk k) hsm.1 hsm.2.1 hsm.2.2;rw [dV,if_pos hkl];by_cases h0:Ce (gi rk k)=0
  ·rw [h0] at hc ⊢
   rw [if_neg (by decide)]
   repeat' (first|(apply Aa.fn;rfl;rfl;exact hc;intro _;rfl)|(apply Aa.Ak;rfl;rfl;rfl;omega;rfl)|refine go2 ?_|(apply Aa.int;rfl;rfl;rfl)|(apply Ad.Ac;rfl)|(apply Ad.cond_false;rfl)|(intro _;try (exfalso;omega)))
   all_goals try (exfalso;omega)
   refine Ag.normal ⟨k+1,⟨by omega,?_⟩,by omega,⟨by omega,?_,?_⟩⟩
   ·rfl
   ·exact C9
   ·exact DT
  ·rw [if_pos h0,if_pos h0]
   repeat' (first|(apply Aa.fn;rfl;rfl;exact hc;intro _;rfl)|(apply Aa.Ak;rfl;rfl;rfl;omega;rfl)|refine go2 ?_|(apply Aa.int;rfl;rfl;rfl)|(apply Ad.Ac;rfl)|(apply Ad.Ar;rfl)|(intro _;try (exfalso;omega)))
   all_goals first|(exfalso;omega)|(refine Done.rt rfl rfl ⟨?_,rfl,rfl⟩;try rfl)
 ·rw [dV,if_neg hkl,if_neg (by decide)]
  repeat' (first|(apply Aa.fn;rfl;rfl;exact hcm;intro _;rfl)|refine go2 ?_|(apply Aa.int;rfl;rfl;rfl)|(apply Ad.Ac;rfl)|(intro _;try (exfalso;omega)))
  all_goals first|(exfalso;omega)|(refine Done.rt rfl rfl ⟨?_,rfl,rfl⟩;try rfl)
theorem a1q (rk:List Hr) (lo hi:Int) (s:Stp) (hr:rk.length<1000000) (hs:∀ i,i<rk.length→gX (gi rk i)) (hS:nT s):Ap env 157 [.agg (a3n rk lo hi),.agg (Enc.enc s)] (.p (.int .i64 (DV rk lo hi s))):=by
 obtain ⟨q1,q2,q3⟩:=hS;have hp:=vJ rk lo hi hr hs;have hn:=Ir s.name (by omega);have hf:=LK s.Eb;unfold DV b7g;refine Ap.enter (Ae (by decide)) Tryz.func157 rfl (by kernel_rfl) (by simp [Tryz.ntmps157]) ?_;by_cases h0:qP rk lo hi=0
 case neg =>
  rw [if_pos h0]
  repeat' (first|(apply Aa.fn;rfl;rfl;exact hp;intro _;rfl)|refine go2 ?_|(apply Aa.int;rfl;rfl;rfl)|(apply Ad.Ac;rfl)|(intro _;try (exfalso;omega)))
  all_goals first|(exfalso;omega)|(refine Done.rt rfl rfl ⟨?_,rfl,rfl⟩;try rfl)
 rw [h0] at hp ⊢;rw [if_neg (by decide)];by_cases h1:DF s.name
 case neg =>
  rw [if_pos h1];rw [decide_eq_false h1] at hn
  repeat' (first|(apply Aa.fn;rfl;rfl;exact hp;intro _;rfl)|(apply Aa.fn;rfl;rfl;exact hn;intro _;rfl)|refine go2 ?_|(apply Aa.int;rfl;rfl;rfl)|(apply Ad.AV;rfl)|(apply Ad.Ai;rfl))
  all_goals first|contradiction|(exfalso;omega)|(refine Done.rt rfl rfl ⟨?_,rfl,rfl⟩;try rfl)
 rw [if_neg (fun h=>h h1)];rw [decide_eq_true h1] at hn;by_cases h2:Ri s.Eb=0
 case neg =>
  rw [if_pos h2]
  repeat' (first|(apply Aa.fn;rfl;rfl;exact hp;intro _;rfl)|(apply Aa.fn;rfl;rfl;exact hn;intro _;rfl)|(apply Aa.fn;rfl;rfl;exact hf;intro _;rfl)|refine go2 ?_|(apply Aa.int;rfl;rfl;rfl)|(apply Ad.Ai;rfl)|(apply Ad.Ac;rfl)|(intro _;try (exfalso;omega)))
  all_goals first|contradiction|(exfalso;omega)|(refine Done.rt rfl rfl ⟨?_,rfl,rfl⟩;try rfl)
 rw [if_neg (fun h=>h h2)];rw [h2] at hf
 repeat' (first|(apply Aa.fn;rfl;rfl;exact hp;intro _;rfl)|(apply Aa.fn;rfl;rfl;exact hn;intro _;rfl)|(apply Aa.fn;rfl;rfl;exact hf;intro _;rfl)|refine go2 ?_|(apply Aa.int;rfl;rfl;rfl)|(apply Ad.Ai;rfl)|(apply Ad.Ar;rfl)|(intro _;try (exfalso;omega)))
 all_goals try contradiction
 all_goals try (exfalso;omega)
 ·rw [if_pos (by omega)];(refine Done.rt rfl rfl ⟨?_,rfl,rfl⟩;try rfl)
 ·rw [if_neg (by omega),if_pos (by omega)];(refine Done.rt rfl rfl ⟨?_,rfl,rfl⟩;try rfl)
 rw [if_neg (by omega),if_neg (by omega)];refine Ad.DJ (fun k:Nat=>[(2,.ref 0 0),(3,.ref 1 0),(36,lst 273 s.I7),(37,.p (.int .i64 (s.I7.length:Int))),(38,.p (.int .i64 (k:Int)))]) (fun _=>[(1,.box 229 ((Enc.enc s).map .p)),(0,.box 277 ((a3n rk lo hi).map .p))]) 2 (fun k=>k≤s.I7.length∧Nv rk.length lo hi s.I7 k=Nv rk.length lo hi s.I7 0) (fun k=>s.I7.length-k) 0 (by omega) ⟨by omega,rfl⟩ ⟨by omega,?_,?_⟩ ?_
 ·exact C9
 ·exact DT
 rintro k ⟨hk,hE⟩;rw [← hE];by_cases hkl:k<s.I7.length
 ·have hsm:=(q3 k hkl).draws
  have hd:=wK rk lo hi (gi s.I7 k).draws hsm hr;rw [Nv,if_pos hkl];have hk1:((k:Int)-1).toNat=k-1:=by omega
  have hkc:0<k→((k-1:Nat):Int)=(k:Int)-1:=fun h=>by omega
  generalize hD:Ze rk.length (gi s.I7 k).draws=D at *
  repeat' (first|(apply Aa.fn;rfl;rfl;exact hd;intro _;rfl)|(apply Aa.Ak;rfl;rfl;rfl;omega;rfl)|(apply Aa.a7v;rfl;rfl;rfl;omega;omega;rfl)|refine IE ?_|(apply Aj.guard;rfl;rfl)|(apply Ah.guard;rfl;rfl)|(apply Ah.ZI;rfl;rfl)|(apply Aa.int;rfl;rfl;rfl)|(apply Aa.b1c;rfl;rfl)|(apply Aa.b6m;rfl;rfl)|(apply Ad.Ac;rfl)|(apply Ad.cond_true;rfl)|(apply Ad.cond_false;rfl)|(apply Ad.Ar;rfl)|(intro _;try (exfalso;omega)))
  all_goals try (exfalso;omega)
  all_goals first
   |(rw [if_pos (by omega)];(refine Done.rt rfl rfl ⟨?_,rfl,rfl⟩;try rfl);done)
   |(rw [if_neg (by omega),if_pos (by omega)];(refine Done.rt rfl rfl ⟨?_,rfl,rfl⟩;try rfl);done)
   |(rw [if_neg (by omega),if_neg (by omega),if_pos (by omega)];(refine Done.rt rfl rfl ⟨?_,rfl,rfl⟩;try rfl);done)
   |(rw [if_neg (by omega),if_neg (by omega),if_neg (by omega)]
     refine Ag.normal ⟨k+1,⟨by omega,?_⟩,by omega,⟨by omega,?_,?_⟩⟩
     ·first|rfl|(refine ef ?_ hE;symm;(conv=>lhs;rw [Nv]);rw [if_pos hkl,if_neg (by omega),if_neg (by omega),if_neg (by omega)])
     ·exact C9
     ·exact DT)
 ·rw [Nv,if_neg hkl]
  repeat' (first|refine IG ?_|(apply Ad.Ac;rfl)|(intro _;try (exfalso;omega)))
  all_goals first|(exfalso;omega)|(refine Done.rt rfl rfl ⟨?_,rfl,rfl⟩;try rfl)
theorem b0n {L:Vm.Frame} {H:Vm.Heap} {nx:Nat} {Q:PV→Vm.Heap→Nat→Prop} {dst:Option Tmp} {ty:TypeId} {pos:String} {af:Array Edge} {gd:Option (Nat×Bool)} {fo:Operand} {args:Array Operand} {aT:Array TypeId} {fs cs xs:List PV} {c:Code}
 (hf:AU env.Γ L fo=some (.clo 158 fs cs)) (ha:evs env.Γ L args.toList=some xs) (hb:Tryz.f158.body=some c) (hn:(fs++xs++cs).length≤Tryz.f158.ntmps)
 (h:Ad env nx c (Ci 0 (fs++xs++cs)) H nx (AB env.P Tryz.f158.results.toList Q)):Aa env true ⟨dst,.call { callee:=.value fo,args:=args,argTypes:=aT },ty,pos,af,gd⟩ L H nx Q:=by
 have h0:(match Tryz.f158.body with|some c=>Iz env.G Tryz.f158 c|none=>false)=true:=by kernel_rfl
 rw [hb] at h0;exact Aa.inline rfl hf ha (Ae (by decide)) Tryz.func158 hb h0 hn h
theorem b0x {L:Vm.Frame} {H:Vm.Heap} {nx:Nat} {Q:PV→Vm.Heap→Nat→Prop} {dst:Option Tmp} {ty:TypeId} {pos:String} {af:Array Edge} {gd:Option (Nat×Bool)} {fo:Operand} {args:Array Operand} {aT:Array TypeId} {fs cs xs:List PV} {c:Code}
 (hf:AU env.Γ L fo=some (.clo 183 fs cs)) (ha:evs env.Γ L args.toList=some xs) (hb:Tryz.f183.body=some c) (hn:(fs++xs++cs).length≤Tryz.f183.ntmps)
 (h:Ad env nx c (Ci 0 (fs++xs++cs)) H nx (AB env.P Tryz.f183.results.toList Q)):Aa env true ⟨dst,.call { callee:=.value fo,args:=args,argTypes:=aT },ty,pos,af,gd⟩ L H nx Q:=by
 have h0:(match Tryz.f183.body with|some c=>Iz env.G Tryz.f183 c|none=>false)=true:=by kernel_rfl
 rw [hb] at h0;exact Aa.inline rfl hf ha (Ae (by decide)) Tryz.func183 hb h0 hn h
theorem zi {L:Vm.Frame} {H:Vm.Heap} {nx:Nat} {Q:PV→Vm.Heap→Nat→Prop} {dst:Option Tmp} {ty:TypeId} {pos:String} {af:Array Edge} {gd:Option (Nat×Bool)} {fo:Operand} {args:Array Operand} {aT:Array TypeId} {fs cs xs:List PV} {c:Code}
 (hf:AU env.Γ L fo=some (.clo 159 fs cs)) (ha:evs env.Γ L args.toList=some xs) (hb:Tryz.f159.body=some c) (hn:(fs++xs++cs).length≤Tryz.f159.ntmps)
 (h:Ad env nx c (Ci 0 (fs++xs++cs)) H nx (AB env.P Tryz.f159.results.toList Q)):Aa env true ⟨dst,.call { callee:=.value fo,args:=args,argTypes:=aT },ty,pos,af,gd⟩ L H nx Q:=by
 have h0:(match Tryz.f159.body with|some c=>Iz env.G Tryz.f159 c|none=>false)=true:=by kernel_rfl
 rw [hb] at h0;exact Aa.inline rfl hf ha (Ae (by decide)) Tryz.func159 hb h0 hn h
theorem ji (ks:List mY) (l:List mW) (hk0:ks.length<1000000) (hl:l.length<1000000) (hn0:∀ i,i<l.length→(gi l i).name.length<1000000):Ap env 121 [.lst 115 (cells ks) ks.length,.lst 236 (cells l) l.length] (.p (.int .i64 (En ks l))):=by
 unfold En;refine Ap.enter (Ae (by decide)) Tryz.func121 rfl (by kernel_rfl) (by simp [Tryz.ntmps121]) ?_;by_cases h0:ks.length>8∨l.length>40
 ·rw [if_pos h0]
  repeat' (first|refine O8 ?_|(apply Aj.guard;rfl;rfl)|(apply Ad.AV;rfl)|(apply Ad.Ac;rfl)|(intro _;try (exfalso;omega)))
  all_goals first|(exfalso;omega)|(refine Done.rt rfl rfl ⟨?_,rfl,rfl⟩;try rfl)
 rw [if_neg h0]
 repeat' (first|refine O8 ?_|(apply Aj.guard;rfl;rfl)|(apply Ad.Ac;rfl)|(intro _;try (exfalso;omega)))
 all_goals try (exfalso;omega)
 refine Ad.DJ (fun k:Nat=>[(0,lst 115 ks),(1,lst 236 l),(17,lst 115 ks),(18,.p (.int .i64 (ks.length:Int))),(19,.p (.int .i64 (k:Int)))]) (fun _=>[]) 0 (fun k=>k≤ks.length∧Tt ks k=Tt ks 0) (fun k=>ks.length-k) 0 (by omega) ⟨by omega,rfl⟩ ⟨by omega,?_,BJ.nil⟩ ?_
 ·exact C9
 rintro k ⟨hk,hE⟩;by_cases hkl:k<ks.length
 ·have hc:=aV (gi ks k).lo (gi ks k).hi
  by_cases h1:X3 (gi ks k).lo (gi ks k).hi=0
  ·rw [h1] at hc
   repeat' (first|(apply Aa.fn;rfl;rfl;exact hc;intro _;rfl)|(apply Aa.Ak;rfl;rfl;rfl;omega;rfl)|refine go2 ?_|(apply Aa.int;rfl;rfl;rfl)|(apply Ad.Ac;rfl)|(apply Ad.cond_false;rfl)|(intro _;try (exfalso;omega)))
   all_goals try (exfalso;omega)
   all_goals try contradiction
   refine Ag.normal ⟨k+1,⟨by omega,?_⟩,by omega,⟨by omega,?_,BJ.nil⟩⟩
   ·first|rfl|(refine ef ?_ hE;symm;(conv=>lhs;rw [Tt]);rw [if_pos hkl,if_neg (fun h=>h h1)])
   ·exact C9
  ·have e:Tt ks 0=23:=by rw [← hE,Tt,if_pos hkl,if_pos h1]
   rw [if_pos (by rw [e];decide),e]
   repeat' (first|(apply Aa.fn;rfl;rfl;exact hc;intro _;rfl)|(apply Aa.Ak;rfl;rfl;rfl;omega;rfl)|refine go2 ?_|(apply Aa.int;rfl;rfl;rfl)|(apply Ad.Ac;rfl)|(apply Ad.Ar;rfl)|(intro _;try (exfalso;omega)))
   all_goals first|(exfalso;omega)|contradiction|(refine Done.rt rfl rfl ⟨?_,rfl,rfl⟩;try rfl)
 obtain rfl:k=ks.length:=by omega
 have e:Tt ks 0=0:=by rw [← hE,Tt,if_neg (by omega)]
 rw [if_neg (fun h=>h e)]
 repeat' (first|refine IG ?_|(apply Ad.Ac;rfl)|(intro _;try (exfalso;omega)))
 all_goals try (exfalso;omega)
 refine Ad.DJ (fun k:Nat=>[(0,lst 115 ks),(1,lst 236 l),(27,lst 236 l),(28,.p (.int .i64 (l.length:Int))),(29,.p (.int .i64 (k:Int)))]) (fun _=>[]) 0 (fun k=>k≤l.length∧RU ks.length l k=RU ks.length l 0) (fun k=>l.length-k) 0 (by omega) ⟨by omega,rfl⟩ ⟨by omega,?_,BJ.nil⟩ ?_
 ·exact C9
 rintro k ⟨hk,hE⟩;rw [← hE];by_cases hkl:k<l.length
 case neg =>
  rw [RU,if_neg hkl]
  repeat' (first|refine IG ?_|(apply Ad.Ac;rfl)|(intro _;try (exfalso;omega)))
  all_goals first|(exfalso;omega)|(refine Done.rt rfl rfl ⟨?_,rfl,rfl⟩;try rfl)
 rw [RU,if_pos hkl];have hN:=Ir (gi l k).name (by have:=hn0 k hkl;omega);by_cases h1:DF (gi l k).name
 case neg =>
  rw [if_pos h1];rw [decide_eq_false h1] at hN
  repeat' (first|(apply Aa.fn;rfl;rfl;exact hN;intro _;rfl)|(apply Aa.Ak;rfl;rfl;rfl;omega;rfl)|refine go2 ?_|apply Ad.Hq|(apply Aa.int;rfl;rfl;rfl)|(apply Ad.Ac;rfl)|(apply Ad.cond_true;rfl)|(intro _;try (exfalso;omega)))
  all_goals first|(exfalso;omega)|contradiction|(refine Done.rt rfl rfl ⟨?_,rfl,rfl⟩;try rfl)
 rw [if_neg (fun h=>h h1)];rw [decide_eq_true h1] at hN;have hT:(gi l k).name∈(l.take k).map mW.name↔∃ j,j<k∧(gi l j).name=(gi l k).name:=by
  rw [aR];constructor
  ·rintro ⟨a,ha,e⟩
   obtain ⟨j,h1,h2⟩:=aS.1 ha;rw [ax] at h1;rw [Yv (by omega)] at h2;exact ⟨j,by omega,by rw [h2,e]⟩
  ·rintro ⟨j,hj,e⟩
   exact ⟨gi l j,aS.2 ⟨j,by rw [ax];omega,Yv hj⟩,e⟩
 repeat' (first|(apply Aa.fn;rfl;rfl;exact hN;intro _;rfl)|(apply b0n;rfl;rfl;rfl;exact le_dec rfl)|(apply b0x;rfl;rfl;rfl;exact le_dec rfl)|(apply Aa.makeFunc;rfl;rfl)|(apply Aa.Ak;rfl;rfl;rfl;omega;rfl)|refine go2 ?_|apply Ad.Hq|(apply Aa.sliceTo;rfl;rfl;rfl;rfl;rfl;rfl;omega)|(apply Aa.int;rfl;rfl;rfl)|(apply Ad.Ac;rfl)|(apply Ad.cond_false;rfl)|(intro _;try (exfalso;omega)))
 all_goals try (exfalso;omega)
 all_goals try contradiction
 refine Ad.DJ (fun j:Nat=>[(0,.p (.lst 236 (cells (l.take k)) k)),(1,.clo 159 [] [.ref 0 0]),(7,.p (.int .i64 (k:Int))),(8,.p (.int .i64 (j:Int)))]) (fun _=>[(0,.box 236 ((Enc.enc (gi l k)).map .p))]) 1 (fun j=>j≤k∧∀ i,i<j→(gi l i).name≠(gi l k).name) (fun j=>k-j) 0 (by omega) ⟨by omega,fun i hi=>by omega⟩ ⟨by omega,?_,?_⟩ ?_
 ·exact C9
 ·exact DT
 rintro j ⟨hj,hok⟩;by_cases hjk:j<k
 ·have hgt:gi (l.take k) j=gi l j:=Yv hjk
  have hlt:(l.take k).length=k:=by rw [ax];omega
  generalize hg:decide ((gi l j).name=(gi l k).name)=g at *;have hg2:decide ((gi (l.take k) j).name=(gi l k).name)=g:=by rw [hgt];exact hg
  cases g
  ·repeat' (first|(apply zi;rfl;rfl;rfl;exact le_dec rfl)|(apply Aa.b8v;rfl;rfl;exact hg2)|(apply Aa.Ak (l:=l.take k) (i:=j);rfl;rfl;rfl;omega;exact hlt)|refine go2 ?_|(apply AB.ret;rfl)|(apply Aa.int;rfl;rfl;rfl)|(apply Ad.Ac;rfl)|(apply Ad.cond_false;rfl)|(intro _;try (exfalso;omega)))
   all_goals try (exfalso;omega)
   refine Ag.normal ⟨j+1,⟨by omega,fun i hi=>?_⟩,by omega,⟨by omega,?_,?_⟩⟩
   ·rcases aq i j with h|h
    ·exact hok i h
    ·obtain rfl:i=j:=by omega
     exact of_decide_eq_false hg
   ·exact C9
   ·exact DT
  ·rw [if_pos (hT.2 ⟨j,hjk,of_decide_eq_true hg⟩)]
   repeat' (first|(apply zi;rfl;rfl;rfl;exact le_dec rfl)|(apply Aa.b8v;rfl;rfl;exact hg2)|(apply Aa.Ak (l:=l.take k) (i:=j);rfl;rfl;rfl;omega;exact hlt)|refine go2 ?_|(apply AB.ret;rfl)|(apply Aa.int;rfl;rfl;rfl)|(apply Ad.Ac;rfl)|(apply Ad.cond_true;rfl)|(intro _;try (exfalso;omega)))
   all_goals first|(exfalso;omega)|contradiction|(refine Done.rt rfl rfl ⟨?_,rfl,rfl⟩;try rfl)
 obtain rfl:j=k:=by omega
 rw [if_neg (fun h=>by obtain ⟨i,h1,h2⟩:=hT.1 h;exact hok i h1 h2)]
 repeat' (first|refine O8 ?_|(apply AB.ret;rfl)|(apply Aj.guard;rfl;rfl)|(apply Ad.Ac;rfl)|(apply Ad.cond_true;rfl)|(apply Ad.cond_false;rfl)|(apply Ad.Ar;rfl)|(intro _;try (exfalso;omega)))
 all_goals try (exfalso;omega)
 all_goals try contradiction
 all_goals first
  |(rw [if_pos (by omega)];(refine Done.rt rfl rfl ⟨?_,rfl,rfl⟩;try rfl);done)
  |(rw [if_neg (by omega),if_pos (by omega)];(refine Done.rt rfl rfl ⟨?_,rfl,rfl⟩;try rfl);done)
  |(rw [if_neg (by omega),if_neg (by omega),if_pos (by omega)];(refine Done.rt rfl rfl ⟨?_,rfl,rfl⟩;try rfl);done)
  |(rw [if_neg (by omega),if_neg (by omega),if_neg (by omega)]
    refine Ag.normal ⟨j+1,⟨by omega,?_⟩,by omega,⟨by omega,?_,BJ.nil⟩⟩
    ·first|rfl|(refine ef ?_ hE;symm;(conv=>lhs;rw [RU]);rw [if_pos hkl,if_neg (fun h=>h h1),if_neg (fun h=>by obtain ⟨i,h1,h2⟩:=hT.1 h;exact hok i h1 h2),if_neg (by omega),if_neg (by omega),if_neg (by omega)])
    ·exact C9)
end Go.Proofs.YtnjkoebfgcbbdaaGreatDoor
