/-
  Texts of a proof, merged (OrF, RkJ, RkK, RkL, OrG, OrH, OrI, OrC, OrD). Conditions: in each statement.
-/
import Derived.Test.YtnjkoebfgcbbdaaGreatDoorKBi
set_option linter.unusedSimpArgs false
set_option linter.unusedVariables false
set_option linter.unusedSectionVars false
set_option maxRecDepth 100000
set_option maxHeartbeats 8000000
abbrev bb:=@Int.le_refl
abbrev bx:=@Int.emod_lt_of_pos
abbrev bB:=@Int.emod_nonneg
namespace Go.Proofs.YtnjkoebfgcbbdaaGreatDoor
open Go Go.Am Go.Vm
attribute [local irreducible] Aa Ai Ag Ad AO Ap Bc BK Bh Ah Vm.Done Bv AB
structure Pul where
 rank:Nat
 Ec:Nat
 kind:Nat
 at_:Nat
instance:Enc Pul:={ default:=⟨0,0,0,0⟩,enc:=fun x=>[.int .u8 (x.rank:Int),.int .u8 (x.Ec:Int),.int .u8 (x.kind:Int),.int .u8 (x.at_:Int)],size:=4,len:=fun _=>rfl }
structure Pul.Ok (x:Pul):Prop where
 rank:x.rank<256
 Ec:x.Ec<256
 kind:x.kind<256
 at_:x.at_<256
structure Brd where
 low:Nat
 keys:Nat
 QK:Bool
 stops:List Pul
instance:Enc Brd:={ default:=⟨0,0,false,[]⟩,enc:=fun x=>[.int .u8 (x.low:Int),.int .u8 (x.keys:Int),.bool x.QK,.lst 232 (cells x.stops) x.stops.length],size:=4,len:=fun _=>rfl }
structure Brd.Ok (x:Brd):Prop where
 low:x.low<256
 keys:x.keys<256
 stops:x.stops.length<9223372036854775808
 all:∀ i,i<x.stops.length→(gi x.stops i).Ok
structure Lnk where
 VX:Nat
 tgt:Nat
 shift:Int
 through:Bool
instance:Enc Lnk:={ default:=⟨0,0,0,false⟩,enc:=fun x=>[.int .u8 (x.VX:Int),.int .u8 (x.tgt:Int),.int .i8 x.shift,.bool x.through],size:=4,len:=fun _=>rfl }
structure Lnk.Ok (x:Lnk):Prop where
 VX:x.VX<256
 tgt:x.tgt<256
 shift:-128≤x.shift∧x.shift≤127
instance c1n:Enc GR:={ default:=⟨0,0,0,0,[]⟩,enc:=GR.enc,size:=9,len:=fun _=>rfl }
structure OPl where
 ranks:List GR
 Ae:List Brd
 links:List Lnk
def OPl.enc (x:OPl):List FV:=[.lst 226 (cells x.ranks) x.ranks.length,.lst 211 (cells x.Ae) x.Ae.length,.lst 234 (cells x.links) x.links.length]
structure OPl.Ok (x:OPl):Prop where
 ranks:∀ i,i<x.ranks.length→(gi x.ranks i).Ok
 Ae:∀ i,i<x.Ae.length→(gi x.Ae i).Ok
 links:∀ i,i<x.links.length→(gi x.links i).Ok
 nr:x.ranks.length<9223372036854775808
 nd:x.Ae.length<9223372036854775808
 nl:x.links.length<9223372036854775808
def SB:List LD:=[⟨8,1⟩,⟨4,1⟩,⟨16,1⟩,⟨8,3⟩,⟨2,1⟩,⟨8,5⟩]
theorem uM (n:Nat) (hn:n<256):Ap env 151 [.int .u8 (n:Int)] (.p (.agg (Enc.enc (gi SB (n % 6))))):=by
 refine Ap.enter (Af (by decide)) Tryz.func151 rfl (by kernel_rfl) (by simp [Tryz.ntmps151]) ?_;have hlt:n % 6<6:=bc _ (by decide)
 repeat' (first|(refine Ai.IL 12 ?_;refine Ai.ghost (Aw.freeze 9 rfl rfl) ?_)|apply Ad.BD|apply Ad.ret|apply Ai.nil|apply Ai.one|(apply Aa.Aj (l:=SB) (i:=n % 6);rfl;rfl;rfl;exact hlt;rfl)|(apply Aa.move;rfl)|(apply Aa.uf;rfl;rfl;omega;omega)|(apply Aa.load;rfl;rfl)|(apply Aa.alloc;rfl)|(apply Aa.FT;rfl;rfl;rfl;trivial;rfl;rfl;exact Bj rfl;exact le_dec rfl)|(apply Aa.build;rfl;rfl;rfl;rfl;rfl)|(apply Aa.buildSlice;rfl;rfl;rfl;decide;rfl;rfl;rfl))
 all_goals (refine Done.rt rfl rfl ⟨?_,rfl,rfl⟩;try rfl)
theorem a6x:∀ n,n<6→pOk (gi SB n) :=by decide
theorem a5s:∀ a,a<6→∀ b,b<16→(AZ (gi SB a) (gi Sl b)).2=0∧-100≤(AZ (gi SB a) (gi Sl b)).1∧(AZ (gi SB a) (gi Sl b)).1≤100 :=by decide
structure zl (rk:List Hu):Prop where
 len:0<rk.length∧rk.length≤3
 ok:∀ i,i<rk.length→Ce (gi rk i)=0∧∃ b,b<16∧(gi rk i).Ec=gi Sl b
attribute [local irreducible] Ce Ba AZ
theorem b2l (rk:List Hu) (lo hi:Int) (x:Pul) (i:Nat) (hrk:zl rk) (hc:0≤lo∧lo≤hi∧hi≤127) (hx:x.Ok) (hi9:i≤9) :
 ∃ s:Stp,Ap env 115 [.lst 113 (cells rk) rk.length,.agg [.int .i64 lo,.int .i64 hi],.agg (Enc.enc x),.int .i64 (i:Int)] (.p (.agg (Enc.enc s)))∧s.name=Ox 83 i∧DX rk lo hi s=0∧uI s∧∃ a,a<6∧s.Ec=gi SB a:=by
 obtain ⟨hl,hok⟩:=hrk;obtain ⟨x1,x2,x3,x4⟩:=hx;obtain ⟨n,hn⟩:∃ n,n=x.rank % rk.length:=⟨_,rfl⟩
 have hnl:n<rk.length:=by rw [hn];exact bc _ hl.1
 obtain ⟨m,hm⟩:∃ m,m=(n+1) % rk.length:=⟨_,rfl⟩
 have hml:m<rk.length:=by rw [hm];exact bc _ hl.1
 have hf6:=uM x.Ec x2;have h6:x.Ec % 6<6:=bc _ (by decide);have f6:=a6x _ h6;obtain ⟨-,b,hb,eb⟩:=hok n hnl;obtain ⟨-,c,hc2,ec⟩:=hok m hml;have s1:=a5s _ h6 b hb;have s2:=a5s _ h6 c hc2;rw [← eb] at s1;rw [← ec] at s2;generalize hF:gi SB (x.Ec % 6)=F at *;have q1:=Xp F (gi rk n).Ec;have q2:=Xp F (gi rk m).Ec;rw [s1.1] at q1;rw [s2.1] at q2;generalize (AZ F (gi rk n).Ec).1=sh at *;generalize (AZ F (gi rk m).Ec).1=so at *;have c6r:uF rk lo hi=0:=a1x (fun i h=>(hok i h).1) (by omega) hc;have stE:∀ g:List Seg,(0<g.length∧g.length≤12)→MP rk.length lo hi g 0=0→DX rk lo hi ⟨Ox 83 i,F,g⟩=0:=fun g h1 h2=>by
  unfold DX b7i;rw [if_neg (fun h=>h c6r),if_neg (fun h=>h (wP (by decide) (by omega))),if_neg (fun h=>h (Ut.2 f6)),if_neg (by simp only;omega),if_neg (by simp only;omega)];exact h2
 have sm:∀ g:List Seg,g.length<1000000→(∀ j,j<g.length→(gi g j).draws.length<1000000)→uI ⟨Ox 83 i,F,g⟩:=fun g h1 h2=>⟨by simp [Ox],h1,fun j hj=>⟨h2 j hj⟩⟩
 have oK:Xi rk.length ⟨n,sh⟩:=⟨⟨by simp only;omega,by simp only;omega⟩,⟨by simp only;omega,by simp only;omega⟩⟩
 have hn2:(n:Int)=(x.rank:Int) % rk.length:=by rw [hn];simp
 obtain ⟨d,hd⟩:∃ d:Nat,(d:Int)=(x.at_:Int) % (hi-lo+1):=⟨((x.at_:Int) % (hi-lo+1)).toNat,by have:=bB (x.at_:Int) (show hi-lo+1≠0 by omega);omega⟩
 have hd2:(d:Int)≤hi-lo:=by have:=bx (x.at_:Int) (show 0<hi-lo+1 by omega);omega
 have hk6:x.kind % 6<6:=bc _ (by decide);rw [hm,hn] at q2 hml;rw [hn] at q1 hnl;have hm2:(m:Int)=((x.rank:Int) % rk.length+1) % rk.length:=by rw [hm,hn];simp
 have hAt:lo+(d:Int)=lo+(x.at_:Int) % (hi-lo+1):=by omega
 rw [hn2] at oK;have dSo:Xi rk.length ⟨((x.rank:Int) % rk.length+1) % rk.length,so⟩:=by
  rw [← hm2];exact ⟨⟨by simp only;omega,by simp only;rw [hm];have:=bc (n+1) hl.1;omega⟩,⟨by simp only;omega,by simp only;omega⟩⟩
 have dTw:Xi rk.length ⟨(x.rank:Int) % rk.length,sh-12⟩:=⟨oK.rank,⟨by simp only;omega,by simp only;omega⟩⟩
 have dTh:Xi rk.length ⟨(x.rank:Int) % rk.length,sh+7⟩:=⟨oK.rank,⟨by simp only;omega,by simp only;omega⟩⟩
 by_cases k2:x.kind % 6=2
 ·refine ⟨⟨Ox 83 i,F,[⟨lo,hi,[⟨(x.rank:Int) % rk.length,sh⟩,⟨(x.rank:Int) % rk.length,sh+7⟩]⟩]⟩,?_,rfl,?_,?_,_,h6,hF.symm⟩
  ·refine Ap.enter (Af (by decide)) Tryz.func115 rfl (by kernel_rfl) (by simp [Tryz.ntmps115]) ?_
   repeat' (first|(refine Ad.at 5 ?_;refine Ad.ghost (Aw.freeze 13 rfl rfl) ?_;first|apply Ad.BD|apply Ad.Cj)|(refine Ad.at 22 ?_;refine Ad.ghost (Aw.Dn 4 3 rfl rfl rfl) ?_;first|apply Ad.BD|apply Ad.Cj)|(refine Ai.IL 88 ?_;refine Ai.ghost (Aw.freeze 87 rfl rfl) ?_)|apply Ad.assoc|apply Ad.BD|apply Ad.Cj|apply Ad.region|apply Ad.E8|apply BK.normal|apply Bh.normal|apply Ad.ret|apply Ai.nil|apply Ag.nil|apply Ai.one|(apply Ag.bar;decide +kernel)|apply Ag.quiet|(apply Aa.fn;rfl;rfl;exact hf6;intro _;rfl)|(apply Aa.fn;rfl;rfl;exact q1;intro _;rfl)|(apply Aa.Ig;rfl;rfl;rfl;rfl;rfl;omega)|(apply Aa.Aj (l:=rk) (i:=x.rank % rk.length);rfl;rfl;rfl;exact hnl;rfl)|(apply Aa.assign;rfl)|(apply Aa.move;rfl)|(apply Aa.Nl;rfl;rfl;omega)|(apply Aa.Zd;rfl;rfl;omega)|(apply Aa.uf;rfl;rfl;omega;omega)|(apply Aa.int;rfl;rfl;rfl)|(apply Aa.load;rfl;rfl)|(apply Aa.lG;rfl;rfl)|(apply Aa.Ih;rfl;rfl;rfl)|(apply Aa.Zn;rfl;rfl)|(apply Aa.box;rfl;trivial)|(apply Aa.alloc;rfl)|(apply Aa.FT;rfl;rfl;rfl;trivial;rfl;rfl;exact Bj rfl;exact le_dec rfl)|(apply Aa.build;rfl;rfl;rfl;rfl;rfl)|(apply Aa.buildSlice;rfl;rfl;rfl;decide;rfl;rfl;rfl)|(apply Aa.Yx;rfl;rfl;(first|omega|(simp only [List.length_take,List.length_drop,List.length_append,List.length_singleton,List.length_cons,List.length_nil]<;>omega)))|(apply Aa.extract;rfl;rfl)|(apply Aa.Ia;rfl;rfl;rfl;rfl;omega)|(apply Aa.Nw;rfl;rfl;rfl;rfl;omega)|(apply Ad.Aq;rfl)|(intro _;try (exfalso;omega)))
   all_goals first|(exfalso;omega)|contradiction|(refine Done.rt rfl rfl ⟨?_,rfl,rfl⟩;rfl)
  ·exact stE _ (by simp) (MR ⟨bb _,hc.2.1,bb _⟩ (a7v oK dTh (fun h=>by have:=congrArg uK.shift h;simp only at this;omega)))
  ·refine sm _ (by simp) (fun j hj=>?_)
   obtain rfl:j=0:=by simp at hj;omega
   show 2<1000000;decide
 by_cases k5:x.kind % 6=5
 ·refine ⟨⟨Ox 83 i,F,[⟨lo+(x.at_:Int) % (hi-lo+1),hi,[⟨(x.rank:Int) % rk.length,sh⟩]⟩]⟩,?_,rfl,?_,?_,_,h6,hF.symm⟩
  ·refine Ap.enter (Af (by decide)) Tryz.func115 rfl (by kernel_rfl) (by simp [Tryz.ntmps115]) ?_
   repeat' (first|(refine Ad.at 5 ?_;refine Ad.ghost (Aw.freeze 13 rfl rfl) ?_;first|apply Ad.BD|apply Ad.Cj)|(refine Ad.at 22 ?_;refine Ad.ghost (Aw.Dn 4 3 rfl rfl rfl) ?_;first|apply Ad.BD|apply Ad.Cj)|(apply Aa.fn;rfl;rfl;exact hf6;intro _;rfl)|(apply Aa.fn;rfl;rfl;exact q1;intro _;rfl)|(apply Aa.Aj (l:=rk) (i:=x.rank % rk.length);rfl;rfl;rfl;exact hnl;rfl)|refine go2 ?_|apply Ad.BD|apply Ad.Cj|apply Ad.region|(apply Aa.Ig;rfl;rfl;rfl;rfl;rfl;omega)|(apply Aa.int;rfl;rfl;rfl)|(apply Aa.build;rfl;rfl;rfl;rfl;rfl)|(apply Aa.buildSlice;rfl;rfl;rfl;decide;rfl;rfl;rfl)|(apply Aa.Yx;rfl;rfl;(first|omega|(simp only [List.length_take,List.length_drop,List.length_append,List.length_singleton,List.length_cons,List.length_nil]<;>omega)))|(apply Aa.Ia;rfl;rfl;rfl;rfl;omega)|(apply Aa.Nw;rfl;rfl;rfl;rfl;omega)|(apply Ad.Ac;rfl)|(apply Ad.Aq;rfl)|(intro _;try (exfalso;omega)))
   all_goals first|(exfalso;omega)|contradiction|(refine Done.rt rfl rfl ⟨?_,rfl,rfl⟩;rfl)
  ·exact stE _ (by simp) (MR ⟨by simp only;omega,by simp only;omega,bb _⟩ (JW oK))
  ·refine sm _ (by simp) (fun j hj=>?_)
   obtain rfl:j=0:=by simp at hj;omega
   show 1<1000000;decide
 by_cases k01:x.kind % 6<2
 ·refine ⟨⟨Ox 83 i,F,[⟨lo,hi,[⟨(x.rank:Int) % rk.length,sh⟩]⟩]⟩,?_,rfl,?_,?_,_,h6,hF.symm⟩
  ·refine Ap.enter (Af (by decide)) Tryz.func115 rfl (by kernel_rfl) (by simp [Tryz.ntmps115]) ?_
   repeat' (first|(refine Ad.at 5 ?_;refine Ad.ghost (Aw.freeze 13 rfl rfl) ?_;first|apply Ad.BD|apply Ad.Cj)|(refine Ad.at 22 ?_;refine Ad.ghost (Aw.Dn 4 3 rfl rfl rfl) ?_;first|apply Ad.BD|apply Ad.Cj)|(apply Aa.fn;rfl;rfl;exact hf6;intro _;rfl)|(apply Aa.fn;rfl;rfl;exact q1;intro _;rfl)|(apply Aa.Aj (l:=rk) (i:=x.rank % rk.length);rfl;rfl;rfl;exact hnl;rfl)|refine go2 ?_|apply Ad.BD|apply Ad.Cj|apply Ad.region|(apply Aa.Ig;rfl;rfl;rfl;rfl;rfl;omega)|(apply Aa.int;rfl;rfl;rfl)|(apply Aa.build;rfl;rfl;rfl;rfl;rfl)|(apply Aa.buildSlice;rfl;rfl;rfl;decide;rfl;rfl;rfl)|(apply Aa.Yx;rfl;rfl;(first|omega|(simp only [List.length_take,List.length_drop,List.length_append,List.length_singleton,List.length_cons,List.length_nil]<;>omega)))|(apply Aa.Ia;rfl;rfl;rfl;rfl;omega)|(apply Aa.Nw;rfl;rfl;rfl;rfl;omega)|(apply Ad.Ac;rfl)|(apply Ad.Aq;rfl)|(intro _;try (exfalso;omega)))
   all_goals first|(exfalso;omega)|contradiction|(refine Done.rt rfl rfl ⟨?_,rfl,rfl⟩;rfl)
  ·exact stE _ (by simp) (MR ⟨bb _,hc.2.1,bb _⟩ (JW oK))
  ·refine sm _ (by simp) (fun j hj=>?_)
   obtain rfl:j=0:=by simp at hj;omega
   show 1<1000000;decide
 by_cases hd0:d=0
 ·by_cases k3:x.kind % 6=3
  ·refine ⟨⟨Ox 83 i,F,[⟨lo+(x.at_:Int) % (hi-lo+1),hi,[⟨((x.rank:Int) % rk.length+1) % rk.length,so⟩]⟩]⟩,?_,rfl,?_,?_,_,h6,hF.symm⟩
   ·refine Ap.enter (Af (by decide)) Tryz.func115 rfl (by kernel_rfl) (by simp [Tryz.ntmps115]) ?_
    repeat' (first|(refine Ad.at 17 ?_;refine Ad.ghost (Aw.trans (Aw.freeze 15 rfl rfl) (Aw.EW 4 3 273 rfl rfl)) ?_;first|apply Ad.BD|apply Ad.Cj)|(refine Ad.at 5 ?_;refine Ad.ghost (Aw.freeze 13 rfl rfl) ?_;first|apply Ad.BD|apply Ad.Cj)|(refine Ad.at 22 ?_;refine Ad.ghost (Aw.Dn 4 3 rfl rfl rfl) ?_;first|apply Ad.BD|apply Ad.Cj)|(apply Aa.CW (l:=([]:List Seg)) (a:=⟨lo+(x.at_:Int) % (hi-lo+1),hi,[⟨((x.rank:Int) % rk.length+1) % rk.length,so⟩]⟩);rfl;rfl;rfl;rfl;rfl;rfl;rfl;rfl;(intro _ h;cases h);rfl;rfl;rfl;decide;decide;(first|omega|(simp only [List.length_nil,List.length_cons]<;>omega)))|(apply Aa.fn;rfl;rfl;exact hf6;intro _;rfl)|(apply Aa.fn;rfl;rfl;exact q1;intro _;rfl)|(apply Aa.fn;rfl;rfl;exact q2;intro _;rfl)|(apply Aa.Aj (l:=rk) (i:=x.rank % rk.length);rfl;rfl;rfl;exact hnl;rfl)|(apply Aa.Aj (l:=rk) (i:=(x.rank % rk.length+1) % rk.length);rfl;rfl;rfl;exact hml;rfl)|refine go2 ?_|apply Ad.BD|apply Ad.Cj|apply Ad.region|(apply Aa.Ig;rfl;rfl;rfl;rfl;rfl;omega)|(apply Aa.int;rfl;rfl;rfl)|(apply Aa.build;rfl;rfl;rfl;rfl;rfl)|(apply Aa.buildSlice;rfl;rfl;rfl;decide;rfl;rfl;rfl)|(apply Aa.Yx;rfl;rfl;(first|omega|(simp only [List.length_take,List.length_drop,List.length_append,List.length_singleton,List.length_cons,List.length_nil]<;>omega)))|(apply Aa.Ia;rfl;rfl;rfl;rfl;omega)|(apply Aa.Nw;rfl;rfl;rfl;rfl;omega)|(apply Ad.Ac;rfl)|(apply Ad.Aq;rfl)|(intro _;try (exfalso;omega)))
    all_goals first|(exfalso;omega)|contradiction|(refine Done.rt rfl rfl ⟨?_,rfl,rfl⟩;rfl)
   ·exact stE _ (by simp) (MR ⟨by simp only;omega,by simp only;omega,bb _⟩ (JW dSo))
   ·refine sm _ (by simp) (fun j hj=>?_)
    obtain rfl:j=0:=by simp at hj;omega
    show 1<1000000;decide
  ·refine ⟨⟨Ox 83 i,F,[⟨lo+(x.at_:Int) % (hi-lo+1),hi,[⟨(x.rank:Int) % rk.length,sh-12⟩]⟩]⟩,?_,rfl,?_,?_,_,h6,hF.symm⟩
   ·refine Ap.enter (Af (by decide)) Tryz.func115 rfl (by kernel_rfl) (by simp [Tryz.ntmps115]) ?_
    repeat' (first|(refine Ad.at 17 ?_;refine Ad.ghost (Aw.trans (Aw.freeze 15 rfl rfl) (Aw.EW 4 3 273 rfl rfl)) ?_;first|apply Ad.BD|apply Ad.Cj)|(refine Ad.at 5 ?_;refine Ad.ghost (Aw.freeze 13 rfl rfl) ?_;first|apply Ad.BD|apply Ad.Cj)|(refine Ad.at 22 ?_;refine Ad.ghost (Aw.Dn 4 3 rfl rfl rfl) ?_;first|apply Ad.BD|apply Ad.Cj)|(apply Aa.CW (l:=([]:List Seg)) (a:=⟨lo+(x.at_:Int) % (hi-lo+1),hi,[⟨(x.rank:Int) % rk.length,sh-12⟩]⟩);rfl;rfl;rfl;rfl;rfl;rfl;rfl;rfl;(intro _ h;cases h);rfl;rfl;rfl;decide;decide;(first|omega|(simp only [List.length_nil,List.length_cons]<;>omega)))|(apply Aa.fn;rfl;rfl;exact hf6;intro _;rfl)|(apply Aa.fn;rfl;rfl;exact q1;intro _;rfl)|(apply Aa.Aj (l:=rk) (i:=x.rank % rk.length);rfl;rfl;rfl;exact hnl;rfl)|refine go2 ?_|apply Ad.BD|apply Ad.Cj|apply Ad.region|(apply Aa.Ig;rfl;rfl;rfl;rfl;rfl;omega)|(apply Aa.int;rfl;rfl;rfl)|(apply Aa.build;rfl;rfl;rfl;rfl;rfl)|(apply Aa.buildSlice;rfl;rfl;rfl;decide;rfl;rfl;rfl)|(apply Aa.Yx;rfl;rfl;(first|omega|(simp only [List.length_take,List.length_drop,List.length_append,List.length_singleton,List.length_cons,List.length_nil]<;>omega)))|(apply Aa.Ia;rfl;rfl;rfl;rfl;omega)|(apply Aa.Nw;rfl;rfl;rfl;rfl;omega)|(apply Ad.Ac;rfl)|(apply Ad.Aq;rfl)|(intro _;try (exfalso;omega)))
    all_goals first|(exfalso;omega)|contradiction|(refine Done.rt rfl rfl ⟨?_,rfl,rfl⟩;rfl)
   ·exact stE _ (by simp) (MR ⟨by simp only;omega,by simp only;omega,bb _⟩ (JW dTw))
   ·refine sm _ (by simp) (fun j hj=>?_)
    obtain rfl:j=0:=by simp at hj;omega
    show 1<1000000;decide
 ·by_cases k3:x.kind % 6=3
  ·refine ⟨⟨Ox 83 i,F,[⟨lo,lo+(x.at_:Int) % (hi-lo+1)-1,[⟨(x.rank:Int) % rk.length,sh⟩]⟩,⟨lo+(x.at_:Int) % (hi-lo+1),hi,[⟨((x.rank:Int) % rk.length+1) % rk.length,so⟩]⟩]⟩,?_,rfl,?_,?_,_,h6,hF.symm⟩
   ·refine Ap.enter (Af (by decide)) Tryz.func115 rfl (by kernel_rfl) (by simp [Tryz.ntmps115]) ?_
    repeat' (first|(refine Ad.at 17 ?_;refine Ad.ghost (Aw.trans (Aw.freeze 15 rfl rfl) (Aw.EW 4 3 273 rfl rfl)) ?_;first|apply Ad.BD|apply Ad.Cj)|(refine Ad.at 5 ?_;refine Ad.ghost (Aw.freeze 13 rfl rfl) ?_;first|apply Ad.BD|apply Ad.Cj)|(refine Ad.at 22 ?_;refine Ad.ghost (Aw.Dn 4 3 rfl rfl rfl) ?_;first|apply Ad.BD|apply Ad.Cj)|(apply Aa.CW (l:=([]:List Seg)) (a:=⟨lo,lo+(x.at_:Int) % (hi-lo+1)-1,[⟨(x.rank:Int) % rk.length,sh⟩]⟩);rfl;rfl;rfl;rfl;rfl;rfl;rfl;rfl;(intro _ h;cases h);rfl;rfl;rfl;decide;decide;(first|omega|(simp only [List.length_nil,List.length_cons]<;>omega)))|(apply Aa.CW (l:=([⟨lo,lo+(x.at_:Int) % (hi-lo+1)-1,[⟨(x.rank:Int) % rk.length,sh⟩]⟩]:List Seg)) (a:=⟨lo+(x.at_:Int) % (hi-lo+1),hi,[⟨((x.rank:Int) % rk.length+1) % rk.length,so⟩]⟩);rfl;rfl;rfl;rfl;rfl;rfl;rfl;rfl;(intro _ h;cases h);rfl;rfl;rfl;decide;decide;(first|omega|(simp only [List.length_nil,List.length_cons]<;>omega)))|(apply Aa.fn;rfl;rfl;exact hf6;intro _;rfl)|(apply Aa.fn;rfl;rfl;exact q1;intro _;rfl)|(apply Aa.fn;rfl;rfl;exact q2;intro _;rfl)|(apply Aa.Aj (l:=rk) (i:=x.rank % rk.length);rfl;rfl;rfl;exact hnl;rfl)|(apply Aa.Aj (l:=rk) (i:=(x.rank % rk.length+1) % rk.length);rfl;rfl;rfl;exact hml;rfl)|refine go2 ?_|apply Ad.BD|apply Ad.Cj|apply Ad.region|(apply Aa.Ig;rfl;rfl;rfl;rfl;rfl;omega)|(apply Aa.int;rfl;rfl;rfl)|(apply Aa.build;rfl;rfl;rfl;rfl;rfl)|(apply Aa.buildSlice;rfl;rfl;rfl;decide;rfl;rfl;rfl)|(apply Aa.Yx;rfl;rfl;(first|omega|(simp only [List.length_take,List.length_drop,List.length_append,List.length_singleton,List.length_cons,List.length_nil]<;>omega)))|(apply Aa.Ia;rfl;rfl;rfl;rfl;omega)|(apply Aa.Nw;rfl;rfl;rfl;rfl;omega)|(apply Ad.Ac;rfl)|(apply Ad.Aq;rfl)|(intro _;try (exfalso;omega)))
    all_goals first|(exfalso;omega)|contradiction|(refine Done.rt rfl rfl ⟨?_,rfl,rfl⟩;rfl)
   ·exact stE _ (by simp) (jP ⟨bb _,by simp only;omega,by simp only;omega,by simp only;omega,bb _⟩ (JW oK) (JW dSo))
   ·refine sm _ (by simp) (fun j hj=>?_)
    have:j=0∨j=1:=by simp at hj;omega
    rcases this with rfl|rfl
    ·show 1<1000000
     decide
    ·show 1<1000000
     decide
  ·refine ⟨⟨Ox 83 i,F,[⟨lo,lo+(x.at_:Int) % (hi-lo+1)-1,[⟨(x.rank:Int) % rk.length,sh⟩]⟩,⟨lo+(x.at_:Int) % (hi-lo+1),hi,[⟨(x.rank:Int) % rk.length,sh-12⟩]⟩]⟩,?_,rfl,?_,?_,_,h6,hF.symm⟩
   ·refine Ap.enter (Af (by decide)) Tryz.func115 rfl (by kernel_rfl) (by simp [Tryz.ntmps115]) ?_
    repeat' (first|(refine Ad.at 17 ?_;refine Ad.ghost (Aw.trans (Aw.freeze 15 rfl rfl) (Aw.EW 4 3 273 rfl rfl)) ?_;first|apply Ad.BD|apply Ad.Cj)|(refine Ad.at 5 ?_;refine Ad.ghost (Aw.freeze 13 rfl rfl) ?_;first|apply Ad.BD|apply Ad.Cj)|(refine Ad.at 22 ?_;refine Ad.ghost (Aw.Dn 4 3 rfl rfl rfl) ?_;first|apply Ad.BD|apply Ad.Cj)|(apply Aa.CW (l:=([]:List Seg)) (a:=⟨lo,lo+(x.at_:Int) % (hi-lo+1)-1,[⟨(x.rank:Int) % rk.length,sh⟩]⟩);rfl;rfl;rfl;rfl;rfl;rfl;rfl;rfl;(intro _ h;cases h);rfl;rfl;rfl;decide;decide;(first|omega|(simp only [List.length_nil,List.length_cons]<;>omega)))|(apply Aa.CW (l:=([⟨lo,lo+(x.at_:Int) % (hi-lo+1)-1,[⟨(x.rank:Int) % rk.length,sh⟩]⟩]:List Seg)) (a:=⟨lo+(x.at_:Int) % (hi-lo+1),hi,[⟨(x.rank:Int) % rk.length,sh-12⟩]⟩);rfl;rfl;rfl;rfl;rfl;rfl;rfl;rfl;(intro _ h;cases h);rfl;rfl;rfl;decide;decide;(first|omega|(simp only [List.length_nil,List.length_cons]<;>omega)))|(apply Aa.fn;rfl;rfl;exact hf6;intro _;rfl)|(apply Aa.fn;rfl;rfl;exact q1;intro _;rfl)|(apply Aa.Aj (l:=rk) (i:=x.rank % rk.length);rfl;rfl;rfl;exact hnl;rfl)|refine go2 ?_|apply Ad.BD|apply Ad.Cj|apply Ad.region|(apply Aa.Ig;rfl;rfl;rfl;rfl;rfl;omega)|(apply Aa.int;rfl;rfl;rfl)|(apply Aa.build;rfl;rfl;rfl;rfl;rfl)|(apply Aa.buildSlice;rfl;rfl;rfl;decide;rfl;rfl;rfl)|(apply Aa.Yx;rfl;rfl;(first|omega|(simp only [List.length_take,List.length_drop,List.length_append,List.length_singleton,List.length_cons,List.length_nil]<;>omega)))|(apply Aa.Ia;rfl;rfl;rfl;rfl;omega)|(apply Aa.Nw;rfl;rfl;rfl;rfl;omega)|(apply Ad.Ac;rfl)|(apply Ad.Aq;rfl)|(intro _;try (exfalso;omega)))
    all_goals first|(exfalso;omega)|contradiction|(refine Done.rt rfl rfl ⟨?_,rfl,rfl⟩;rfl)
   ·exact stE _ (by simp) (jP ⟨bb _,by simp only;omega,by simp only;omega,by simp only;omega,bb _⟩ (JW oK) (JW dTw))
   ·refine sm _ (by simp) (fun j hj=>?_)
    have:j=0∨j=1:=by simp at hj;omega
    rcases this with rfl|rfl
    ·show 1<1000000
     decide
    ·show 1<1000000
     decide
end Go.Proofs.YtnjkoebfgcbbdaaGreatDoor
namespace Go.Proofs.YtnjkoebfgcbbdaaGreatDoor
open Go Go.Am Go.Vm
attribute [local irreducible] Aa Ai Ag Ad AO Ap Bc BK Bh Ah Vm.Done Bv AB
noncomputable instance (a b:LD):Decidable (a=b):=Classical.propDecidable _
noncomputable instance (a b:Hu):Decidable (a=b):=Classical.propDecidable _
def lnC (i c:Nat):Prop:=rD c∨(i≠0∧(c=95∨(48≤c∧c≤57)))
def c1d (r:Hu):Prop:=(r.E5.length≤30∨r.E5.length=129)∧r.name.length≤40∧r.JO.length≤40
instance (r:Hu):Decidable (c1d r):=by unfold c1d;infer_instance
attribute [local irreducible] Ce Ba shz AZ Yd
noncomputable def d0m (r:Hu) (f p:Int):FV×Int:=if Yd r f≠0 then (Lc,Yd r f) else if p<1∨p>r.E5.length-f then (Lc,3) else b2t r (r.first+f) ((r.E5.drop f.toNat).take ((f+p).toNat-f.toNat))
noncomputable def d2b (a b:Hu):FV×Int:=if Ce a≠0 then (Lc,Ce a) else if Ce b≠0 then (Lc,Ce b) else if ¬ (a.JO=b.JO∧a.Ec=b.Ec) then (Lc,14) else if b.first≠a.first+a.E5.length then (Lc,6) else b2t a a.first (a.E5++b.E5)
theorem a5l:∀ n,n<3→DF (gi Vu n)
 |0,_=>a2m
 |1,_=>by
  refine ⟨by decide,by decide,by decide,fun i h1 h2=>?_⟩;have:i=1∨i=2∨i=3∨i=4:=by simp [Vu,gi] at h2;omega
  rcases this with rfl|rfl|rfl|rfl<;>exact .inl (by decide)
 |2,_=>by
  refine ⟨by decide,by decide,by decide,fun i h1 h2=>?_⟩;have:i=1∨i=2∨i=3:=by simp [Vu,gi] at h2;omega
  rcases this with rfl|rfl|rfl<;>exact .inl (by decide)
theorem b4f:∀ n,n<16→pOk (gi Sl n) :=by decide
theorem qQ (x:GR):∀ k i,i<k→gi (Jb x k) i=((gi x.E5 (i % 5):Nat):Int)
 |k+1,i,h=>by
  rcases an i k with h1|h1
  ·have:gi (Jb x (k+1)) i=gi (Jb x k) i:=by simp [Jb,gi,List.getElem?_append_left (show i<(Jb x k).length by rw [Gh];omega)]
   rw [this];exact qQ x k i h1
  ·obtain rfl:i=k:=by omega
   simp [Jb,gi,List.getElem?_append_right (show (Jb x i).length≤i by rw [Gh];simp),Gh]
theorem b6v (x:GR) (hx:x.Ok) (i:Int) (hi:0≤i):Ce (WY x i)=0:=by
 obtain ⟨h1,h2,h3,h4,h5⟩:=hx;refine wU ⟨by simp [WY],by simp [WY],(show rD (82:UInt8).toNat by decide),fun j j1 j2=>?_⟩ (a5l _ (bc _ (by decide))) (b4f _ (bc _ (by decide))) ⟨by simp only [WY];omega,by simp only [WY];omega⟩ ⟨by simp only [WY,Gh];omega,by simp only [WY,Gh];omega⟩ (fun j hj=>?_)
 ·obtain rfl:j=1:=by simp [WY] at j2;omega
  have e:(gi (WY x i).name 1).toNat=(48+i % 10).toNat:=by
   show (UInt8.ofNat (48+i % 10).toNat).toNat=_;rw [UInt8.toNat_ofNat'];omega
  right;omega
 ·simp only [WY,Gh] at hj ⊢
  rw [qQ x _ j hj];have:=h5 (j % 5);unfold kM;omega
theorem b4z {α:Type} [Inhabited α] {l:List α} {P:α→Prop} (h:∀ a∈l,P a) {n:Nat} (hn:n<l.length):P (gi l n):=by
 simp only [gi,List.getElem?_eq_getElem hn,Option.getD_some];grind
theorem b1n (x:GR) (i:Int):c6y (WY x i):=by
 refine ⟨by simp [WY],?_,by simp only [WY,Gh];omega⟩;exact cq (b4z (P:=fun l=>l.length≤5) (by decide) (show x.JO % 3<Vu.length from bc _ (by decide))) (by decide)
theorem a9z (x:GR) (i:Int):(WY x i).E5.length≤25:=by simp only [WY,Gh];omega
def c7u:Hu:=⟨[],[],⟨0,0⟩,0,[]⟩
end Go.Proofs.YtnjkoebfgcbbdaaGreatDoor
namespace Go.Proofs.YtnjkoebfgcbbdaaGreatDoor
open Go Go.Am Go.Vm
attribute [local irreducible] Aa Ai Ag Ad AO Ap Bc BK Bh Ah Vm.Done Bv AB
def ZX (x:OPl):Prop:=(1≤x.ranks.length∧x.ranks.length≤3)∧(1≤x.Ae.length∧x.Ae.length≤3)∧x.links.length≤3∧∀ i,i<x.Ae.length→(gi x.Ae i).stops.length≤3
noncomputable instance (x:OPl):Decidable (ZX x):=Classical.propDecidable _
theorem a1z (x:OPl) (hx:x.Ok):Ap env 46 [.agg x.enc] (.p (.bool (decide (ZX x)))):=by
 have b1:=hx.nr;have b2:=hx.nd;have b3:=hx.nl;refine Ap.enter (Af (by decide)) Tryz.func46 rfl (by kernel_rfl) (by simp [Tryz.ntmps46]) ?_;by_cases h0:(1≤x.ranks.length∧x.ranks.length≤3)∧(1≤x.Ae.length∧x.Ae.length≤3)∧x.links.length≤3
 case neg =>
  rw [decide_eq_false (fun h=>h0 ⟨h.1,h.2.1,h.2.2.1⟩)]
  repeat' (first|refine Eu ?_|(apply Ai.guard;rfl;rfl)|(apply Ad.AX;rfl)|(apply Ad.Ac;rfl)|(intro _;try (exfalso;omega)))
  all_goals first|(exfalso;omega)|(refine Done.rt rfl rfl ⟨?_,rfl,rfl⟩;try rfl)
 repeat' (first|refine Eu ?_|(apply Ai.guard;rfl;rfl)|(apply Ad.Ac;rfl)|(intro _;try (exfalso;omega)))
 all_goals try (exfalso;omega)
 refine Ad.DL (fun k:Nat=>[(1,.ref 0 0),(3,.p (.int .i64 (k:Int)))]) (fun _=>[(0,.box 54 (x.enc.map .p))]) 1 (fun k=>k≤x.Ae.length∧∀ i,i<k→(gi x.Ae i).stops.length≤3) (fun k=>x.Ae.length-k) 0 (by omega) ⟨by omega,fun i hi=>by omega⟩ ⟨by omega,?_,?_⟩ ?_
 ·exact C9
 ·exact DR
 rintro k ⟨hk,hok⟩;by_cases hkl:k<x.Ae.length
 ·have hst:=(hx.Ae k hkl).stops
  by_cases h1:(gi x.Ae k).stops.length≤3
  ·repeat' (first|(apply Aa.Aj;rfl;rfl;rfl;omega;rfl)|refine Eu ?_|(apply Ad.Ac;rfl)|(apply Ad.Aq;rfl)|(intro _;try (exfalso;omega)))
   all_goals try (exfalso;omega)
   refine Ah.normal ⟨k+1,⟨by omega,fun i hi=>?_⟩,by omega,⟨by omega,?_,?_⟩⟩
   ·rcases an i k with h|h
    ·exact hok i h
    ·obtain rfl:i=k:=by omega
     exact h1
   ·exact C9
   ·exact DR
  ·rw [decide_eq_false (fun h=>h1 (h.2.2.2 k hkl))]
   repeat' (first|(apply Aa.Aj;rfl;rfl;rfl;omega;rfl)|refine Eu ?_|(apply Ad.Ac;rfl)|(apply Ad.Aq;rfl)|(intro _;try (exfalso;omega)))
   all_goals first|(exfalso;omega)|(refine Done.rt rfl rfl ⟨?_,rfl,rfl⟩;try rfl)
 ·rw [decide_eq_true (show ZX x from ⟨h0.1,h0.2.1,h0.2.2,fun i hi=>hok i (by omega)⟩)]
  repeat' (first|refine Eu ?_|(apply Ad.Ac;rfl)|(intro _;try (exfalso;omega)))
  all_goals first|(exfalso;omega)|(refine Done.rt rfl rfl ⟨?_,rfl,rfl⟩;try rfl)
def b0q (rk:List Hu) (lo hi:Int) (x:Pul) (i:Nat) (s:Stp):Prop :=
 Ap env 115 [.lst 113 (cells rk) rk.length,.agg [.int .i64 lo,.int .i64 hi],.agg (Enc.enc x),.int .i64 (i:Int)] (.p (.agg (Enc.enc s)))∧s.name=Ox 83 i∧DX rk lo hi s=0∧uI s∧∃ a,a<6∧s.Ec=gi SB a
noncomputable def Uk (rk:List Hu) (lo hi:Int) (x:Pul) (i:Nat):Stp:=Classical.epsilon (h:=⟨default⟩) (b0q rk lo hi x i)
theorem bZ (rk:List Hu) (lo hi:Int) (x:Pul) (i:Nat) (hrk:zl rk) (hc:0≤lo∧lo≤hi∧hi≤127) (hx:x.Ok) (hi9:i≤9):b0q rk lo hi x i (Uk rk lo hi x i) :=
 Classical.epsilon_spec (b2l rk lo hi x i hrk hc hx hi9)
def EK (l:List GR):Nat→List Hu
 |0=>[]
 |k+1=>EK l k++[WY (gi l k) (k:Int)]
noncomputable def Gy (rk:List Hu) (lo hi:Int) (l:List Pul):Nat→List Stp
 |0=>[]
 |k+1=>Gy rk lo hi l k++[Uk rk lo hi (gi l k) k]
def EP (b:Brd):Int:=36+(b.low:Int) % 12
def Fg (b:Brd):Int:=EP b+(b.keys:Int) % 9
noncomputable def tN (rk:List Hu) (b:Brd) (k:Nat):oh:=⟨Ox 68 (k:Int),b.QK,EP b,Fg b,Gy rk (EP b) (Fg b) b.stops b.stops.length⟩
noncomputable def G9 (rk:List Hu) (l:List Brd):Nat→List oh
 |0=>[]
 |k+1=>G9 rk l k++[tN rk (gi l k) k]
def Yw (n:Nat) (c:Lnk) (k:Nat):nZ:=⟨Ox 67 (k:Int),(c.VX:Int) % n,(c.tgt:Int) % n,if (c.VX:Int) % n=(c.tgt:Int) % n∧c.shift.tmod 25=0 then 12 else c.shift.tmod 25,c.through⟩
def Fe (n:Nat) (l:List Lnk):Nat→List nZ
 |0=>[]
 |k+1=>Fe n l k++[Yw n (gi l k) k]
theorem Ju (l:List GR):∀ k,(EK l k).length=k
 |0=>rfl
 |k+1=>by simp [EK,Ju l k]
theorem Ii (rk:List Hu) (lo hi:Int) (l:List Pul):∀ k,(Gy rk lo hi l k).length=k
 |0=>rfl
 |k+1=>by simp [Gy,Ii rk lo hi l k]
theorem Nk (rk:List Hu) (l:List Brd):∀ k,(G9 rk l k).length=k
 |0=>rfl
 |k+1=>by simp [G9,Nk rk l k]
theorem Q9 (n:Nat) (l:List Lnk):∀ k,(Fe n l k).length=k
 |0=>rfl
 |k+1=>by simp [Fe,Q9 n l k]
noncomputable def Zh (x:OPl):Ic:=⟨[79,114,103,97,110],EK x.ranks x.ranks.length,G9 (EK x.ranks x.ranks.length) x.Ae x.Ae.length,Fe x.Ae.length x.links x.links.length⟩
theorem Ie {α:Type} [Inhabited α] {l:List α} {a:α} {i:Nat}:gi (l++[a]) i=if i<l.length then gi l i else if i=l.length then a else default:=by
 by_cases h:i<l.length
 ·rw [if_pos h];simp [gi,List.getElem?_append_left h]
 ·rw [if_neg h]
  by_cases h2:i=l.length
  ·rw [if_pos h2,h2];simp [gi]
  ·rw [if_neg h2];simp [gi,List.getElem?_append_right (show l.length≤i by omega),show ¬ i-l.length=0 by omega]
theorem W9 (l:List GR):∀ k i,i<k→gi (EK l k) i=WY (gi l i) (i:Int)
 |k+1,i,h=>by
  simp only [EK,Ie,Ju];by_cases h1:i<k
  ·rw [if_pos h1];exact W9 l k i h1
  grind
theorem gB {l:List GR} (h:∀ i,i<l.length→(gi l i).Ok) (hl:0<l.length∧l.length≤3):zl (EK l l.length):=by
 refine ⟨by rw [Ju];omega,fun i hi=>?_⟩;rw [Ju] at hi;rw [W9 l _ i hi];exact ⟨b6v _ (h i hi) _ (by omega),(gi l i).Ec % 16,bc _ (by decide),rfl⟩
attribute [local irreducible] WY Uk
def d1f (a b c:PV):Vm.HB:=.box 27 [.p (.str (bs [79,114,103,97,110])),a,b,c]
def c9d:Vm.HB:=.box 27 [.p (.str ⟨#[]⟩),.p (.val (.slice none 0 0)),.p (.val (.slice none 0 0)),.p (.val (.slice none 0 0))]
theorem qM (x:OPl) (hx:x.Ok) (hf:ZX x):Ap env 70 [.agg x.enc] (.p (.agg (Enc.enc (Zh x)))):=by
 obtain ⟨hf1,hf2,hf3,hf4⟩:=hf;have hR:=gB hx.ranks (by omega);refine Ap.enter (Af (by decide)) Tryz.func70 rfl (by kernel_rfl) (by simp [Tryz.ntmps70]) ?_
 repeat' (first|refine go1 ?_|(apply Aa.build;rfl;rfl;rfl;rfl;rfl))
 refine Ad.ghost (Aw.EW 2 1 113 rfl rfl) ?_;refine Ad.DL (fun k:Nat=>[(1,.ref 0 0),(2,.ref 1 0),(3,.ref 2 0),(4,.p (.int .i64 (k:Int)))]) (fun k=>[(3,.vec 113 (cells (EK x.ranks k)) (EK x.ranks k).length true),(2,.box 27 [.p (.str (bs [79,114,103,97,110])),.vec 3 (EK x.ranks k).length 0 (EK x.ranks k).length,.p (.val (.slice none 0 0)),.p (.val (.slice none 0 0))]),(1,.box 27 [.p (.str ⟨#[]⟩),.p (.val (.slice none 0 0)),.p (.val (.slice none 0 0)),.p (.val (.slice none 0 0))]),(0,.box 54 (x.enc.map .p))]) 4 (fun k=>k≤x.ranks.length) (fun k=>x.ranks.length-k) 0 (by omega) (by omega) ⟨by omega,?_,?_⟩ ?_
 ·exact C9
 ·exact DR
 intro k hk;have hl:=Ju x.ranks k;have e1:EK x.ranks (k+1)=EK x.ranks k++[WY (gi x.ranks k) (k:Int)]:=rfl;have e2:(EK x.ranks (k+1)).length=(EK x.ranks k).length+1:=by rw [e1];simp
 by_cases hkl:k<x.ranks.length
 ·have hm:=a3f (gi x.ranks k) (hx.ranks k hkl) k ⟨by omega,by omega⟩
  repeat' (first|(apply Aa.fn;rfl;rfl;exact hm;intro _;rfl)|(apply Aa.CW (a:=WY (gi x.ranks k) (k:Int));rfl;rfl;rfl;rfl;rfl;rfl;rfl;rfl;(intro _ h;cases h);rfl;rfl;rfl;decide;decide;(first|omega|(simp only [List.length_take,List.length_drop,List.length_append,List.length_singleton,List.length_cons,List.length_nil]<;>omega)))|(apply Aa.Aj;rfl;rfl;rfl;omega;rfl)|refine fP ?_|(apply Aa.int;rfl;rfl;rfl)|(apply Aa.buildSlice;rfl;rfl;rfl;decide;rfl;rfl;rfl)|(apply Ad.Ac;rfl)|(intro _;try (exfalso;omega)))
  all_goals try (exfalso;omega)
  refine Ah.normal ⟨k+1,by omega,by omega,⟨by omega,?_,?_⟩⟩
  ·exact C9
  ·rw [e2,e1];exact DR
 obtain rfl:k=x.ranks.length:=by omega
 clear e1 e2 hl hkl hk;have eO:Zh x=⟨[79,114,103,97,110],EK x.ranks x.ranks.length,G9 (EK x.ranks x.ranks.length) x.Ae x.Ae.length,Fe x.Ae.length x.links x.links.length⟩:=rfl;rw [eO];generalize EK x.ranks x.ranks.length=R at *;clear eO
 repeat' (first|(refine Ad.at 6 ?_;refine Ad.ghost (Aw.trans (Aw.Dn 2 1 rfl rfl rfl) (Aw.trans (Aw.EW 2 2 118 rfl rfl) (Aw.EW 2 3 236 rfl rfl))) ?_;first|apply Ad.BD|apply Ad.Cj)|refine go0 ?_|apply Ad.BD|(apply Ad.Ac;rfl)|(intro _;try (exfalso;omega)))
 all_goals try (exfalso;omega)
 refine Ad.DL (fun k:Nat=>[(1,.ref 0 0),(2,.ref 1 0),(3,.ref 2 0),(5,.p (.int .i64 (k:Int)))]) (fun k=>[(5,.vec 236 [] 0 true),(4,.vec 118 (cells (G9 R x.Ae k)) (G9 R x.Ae k).length true),(2,.box 27 [.p (.str (bs [79,114,103,97,110])),.p (.lst 113 (cells R) R.length),.vec 4 (G9 R x.Ae k).length 0 (G9 R x.Ae k).length,.vec 5 0 0 0]),(1,.box 27 [.p (.str ⟨#[]⟩),.p (.val (.slice none 0 0)),.p (.val (.slice none 0 0)),.p (.val (.slice none 0 0))]),(0,.box 54 (x.enc.map .p))]) 6 (fun k=>k≤x.Ae.length) (fun k=>x.Ae.length-k) 0 (by omega) (by omega) ⟨by omega,?_,?_⟩ ?_
 ·exact C9
 ·exact DR
 intro k hk;have hl:=Nk R x.Ae k;have e1:G9 R x.Ae (k+1)=G9 R x.Ae k++[tN R (gi x.Ae k) k]:=rfl;have e2:(G9 R x.Ae (k+1)).length=(G9 R x.Ae k).length+1:=by rw [e1];simp
 by_cases hkl:k<x.Ae.length
 ·obtain ⟨q1,q2,q3,q4⟩:=hx.Ae k hkl
  have q5:=hf4 k hkl;have eD:tN R (gi x.Ae k) k=⟨Ox 68 (k:Int),(gi x.Ae k).QK,EP (gi x.Ae k),Fg (gi x.Ae k),Gy R (EP (gi x.Ae k)) (Fg (gi x.Ae k)) (gi x.Ae k).stops (gi x.Ae k).stops.length⟩:=rfl;have hlo:0≤EP (gi x.Ae k)∧EP (gi x.Ae k)≤Fg (gi x.Ae k)∧Fg (gi x.Ae k)≤127:=by unfold Fg EP;omega
  have hst:(gi x.Ae k).stops.length≤3:=q5
  repeat' (first|(apply Aa.Aj;rfl;rfl;rfl;omega;rfl)|refine Ij ?_|(apply Aa.Ig;rfl;rfl;rfl;rfl;rfl;omega)|(apply Aa.int;rfl;rfl;rfl)|(apply Aa.build;rfl;rfl;rfl;rfl;rfl)|(apply Aa.buildSlice;rfl;rfl;rfl;decide;rfl;rfl;rfl)|(apply Aa.Yx;rfl;rfl;(first|omega|(simp only [List.length_take,List.length_drop,List.length_append,List.length_singleton,List.length_cons,List.length_nil]<;>omega)))|(apply Aa.Ia;rfl;rfl;rfl;rfl;omega)|(apply Aa.Nw;rfl;rfl;rfl;rfl;omega)|(apply Ad.Ac;rfl)|(intro _;try (exfalso;omega)))
  all_goals try (exfalso;omega)
  refine Ad.ghost (Aw.EW 8 4 229 rfl rfl) ?_;refine Ad.DL (fun j:Nat=>[(1,.ref 0 0),(2,.ref 1 0),(3,.ref 2 0),(5,.p (.int .i64 (k:Int))),(6,.ref 6 0),(7,.p (.int .i64 (EP (gi x.Ae k)))),(8,.ref 8 0),(9,.p (.int .i64 (j:Int)))]) (fun j=>[(9,.vec 229 (cells (Gy R (EP (gi x.Ae k)) (Fg (gi x.Ae k)) (gi x.Ae k).stops j)) (Gy R (EP (gi x.Ae k)) (Fg (gi x.Ae k)) (gi x.Ae k).stops j).length true),(8,.box 118 [.p (.str (bs (Ox 68 (k:Int)))),.p (.bool (gi x.Ae k).QK),.p (.int .i64 (EP (gi x.Ae k))),.p (.int .i64 (Fg (gi x.Ae k))),.vec 9 (Gy R (EP (gi x.Ae k)) (Fg (gi x.Ae k)) (gi x.Ae k).stops j).length 0 (Gy R (EP (gi x.Ae k)) (Fg (gi x.Ae k)) (gi x.Ae k).stops j).length]),(6,.box 211 ((Enc.enc (gi x.Ae k)).map .p)),(5,.vec 236 [] 0 true),(4,.vec 118 (cells (G9 R x.Ae k)) (G9 R x.Ae k).length true),(2,.box 27 [.p (.str (bs [79,114,103,97,110])),.p (.lst 113 (cells R) R.length),.vec 4 (G9 R x.Ae k).length 0 (G9 R x.Ae k).length,.vec 5 0 0 0]),(1,.box 27 [.p (.str ⟨#[]⟩),.p (.val (.slice none 0 0)),.p (.val (.slice none 0 0)),.p (.val (.slice none 0 0))]),(0,.box 54 (x.enc.map .p))]) 10 (fun j=>j≤(gi x.Ae k).stops.length) (fun j=>(gi x.Ae k).stops.length-j) 0 (by omega) (by omega) ⟨by omega,?_,?_⟩ ?_
  ·exact C9
  ·exact DR
  intro j hj;have jl:=Ii R (EP (gi x.Ae k)) (Fg (gi x.Ae k)) (gi x.Ae k).stops j;have j1:Gy R (EP (gi x.Ae k)) (Fg (gi x.Ae k)) (gi x.Ae k).stops (j+1)=Gy R (EP (gi x.Ae k)) (Fg (gi x.Ae k)) (gi x.Ae k).stops j++[Uk R (EP (gi x.Ae k)) (Fg (gi x.Ae k)) (gi (gi x.Ae k).stops j) j]:=rfl;have j2:(Gy R (EP (gi x.Ae k)) (Fg (gi x.Ae k)) (gi x.Ae k).stops (j+1)).length=(Gy R (EP (gi x.Ae k)) (Fg (gi x.Ae k)) (gi x.Ae k).stops j).length+1:=by rw [j1];simp
  by_cases hjl:j<(gi x.Ae k).stops.length
  ·have hp:=(bZ R (EP (gi x.Ae k)) (Fg (gi x.Ae k)) (gi (gi x.Ae k).stops j) j hR hlo (q4 j hjl) (by omega)).1
   repeat' (first|(apply Aa.fn;rfl;rfl;exact hp;intro _;rfl)|(apply Aa.CW (a:=Uk R (EP (gi x.Ae k)) (Fg (gi x.Ae k)) (gi (gi x.Ae k).stops j) j);rfl;rfl;rfl;rfl;rfl;rfl;rfl;rfl;(intro _ h;cases h);rfl;rfl;rfl;decide;decide;(first|omega|(simp only [List.length_take,List.length_drop,List.length_append,List.length_singleton,List.length_cons,List.length_nil]<;>omega)))|(apply Aa.Aj;rfl;rfl;rfl;omega;rfl)|refine fP ?_|(apply Aa.int;rfl;rfl;rfl)|(apply Aa.buildSlice;rfl;rfl;rfl;decide;rfl;rfl;rfl)|(apply Ad.Ac;rfl)|(intro _;try (exfalso;omega)))
   all_goals try (exfalso;omega)
   refine Ah.normal ⟨j+1,by omega,by omega,⟨by omega,?_,?_⟩⟩
   ·exact C9
   ·rw [j2,j1];exact DR
  obtain rfl:j=(gi x.Ae k).stops.length:=by omega
  repeat' (first|(refine Ad.atEnd 16 ?_;refine Ad.ghost (Aw.Dn 8 4 rfl rfl rfl) ?_;first|apply Ad.region|apply Ad.Fz)|(apply Aa.CW (a:=tN R (gi x.Ae k) k);rfl;rfl;rfl;rfl;rfl;rfl;rfl;rfl;(intro _ h;cases h);rfl;rfl;rfl;decide;decide;(first|omega|(simp only [List.length_take,List.length_drop,List.length_append,List.length_singleton,List.length_cons,List.length_nil]<;>omega)))|refine go2 ?_|apply Ad.BD|apply Ad.region|(apply Aa.int;rfl;rfl;rfl)|(apply Aa.buildSlice;rfl;rfl;rfl;decide;rfl;rfl;rfl)|(apply Ad.Ac;rfl)|(intro _;try (exfalso;omega)))
  all_goals try (exfalso;omega)
  refine Ah.normal ⟨k+1,by omega,by omega,⟨by omega,?_,?_⟩⟩
  ·exact C9
  ·rw [e2,e1];exact DR
 obtain rfl:k=x.Ae.length:=by omega
 clear e1 e2 hl hkl hk;have hDl:=Nk R x.Ae x.Ae.length;generalize G9 R x.Ae x.Ae.length=D at *
 repeat' (first|(refine Ad.at 17 ?_;refine Ad.ghost (Aw.Dn 2 2 rfl rfl rfl) ?_;first|apply Ad.BD|apply Ad.Cj)|refine go0 ?_|apply Ad.BD|(apply Ad.Ac;rfl)|(intro _;try (exfalso;omega)))
 all_goals try (exfalso;omega)
 refine Ad.DL (fun k:Nat=>[(1,.ref 0 0),(2,.ref 1 0),(3,.ref 2 0),(10,.p (.int .i64 (x.Ae.length:Int))),(11,.p (.int .i64 (k:Int)))]) (fun k=>[(5,.vec 236 (cells (Fe x.Ae.length x.links k)) (Fe x.Ae.length x.links k).length true),(2,.box 27 [.p (.str (bs [79,114,103,97,110])),.p (.lst 113 (cells R) R.length),.p (.lst 118 (cells D) D.length),.vec 5 (Fe x.Ae.length x.links k).length 0 (Fe x.Ae.length x.links k).length]),(1,.box 27 [.p (.str ⟨#[]⟩),.p (.val (.slice none 0 0)),.p (.val (.slice none 0 0)),.p (.val (.slice none 0 0))]),(0,.box 54 (x.enc.map .p))]) 6 (fun k=>k≤x.links.length) (fun k=>x.links.length-k) 0 (by omega) (by omega) ⟨by omega,?_,?_⟩ ?_
 ·exact C9
 ·exact DR
 intro k hk;have hl:=Q9 x.Ae.length x.links k;by_cases hkl:k<x.links.length
 ·obtain ⟨q1,q2,q3⟩:=hx.links k hkl
  have hne:((gi x.links k).VX:Int) % x.Ae.length≥0:=bB _ (by omega);by_cases c1:((gi x.links k).VX:Int) % x.Ae.length=((gi x.links k).tgt:Int) % x.Ae.length
  ·by_cases c2:(gi x.links k).shift.tmod 25=0
   ·have e1:Fe x.Ae.length x.links (k+1)=Fe x.Ae.length x.links k++[(⟨Ox 67 (k:Int),((gi x.links k).VX:Int) % x.Ae.length,((gi x.links k).tgt:Int) % x.Ae.length,12,(gi x.links k).through⟩:nZ)]:=by
     show Fe x.Ae.length x.links k++[Yw x.Ae.length (gi x.links k) k]=_;unfold Yw;rw [if_pos ⟨c1,c2⟩]
    have e2:(Fe x.Ae.length x.links (k+1)).length=(Fe x.Ae.length x.links k).length+1:=by rw [e1];simp
    repeat' (first|(apply Aa.CW (a:=(⟨Ox 67 (k:Int),((gi x.links k).VX:Int) % x.Ae.length,((gi x.links k).tgt:Int) % x.Ae.length,12,(gi x.links k).through⟩:nZ));rfl;rfl;rfl;rfl;rfl;rfl;rfl;rfl;(intro _ h;cases h);rfl;rfl;rfl;decide;decide;(first|omega|(simp only [List.length_take,List.length_drop,List.length_append,List.length_singleton,List.length_cons,List.length_nil]<;>omega)))|(apply Aa.Aj;rfl;rfl;rfl;omega;rfl)|refine Ij ?_|(apply Ai.guard;rfl;rfl)|(apply Aa.Ig;rfl;rfl;rfl;rfl;rfl;omega)|(apply Aa.int;rfl;rfl;rfl)|(apply Aa.build;rfl;rfl;rfl;rfl;rfl)|(apply Aa.buildSlice;rfl;rfl;rfl;decide;rfl;rfl;rfl)|(apply Aa.Yx;rfl;rfl;(first|omega|(simp only [List.length_take,List.length_drop,List.length_append,List.length_singleton,List.length_cons,List.length_nil]<;>omega)))|(apply Aa.Ia;rfl;rfl;rfl;rfl;omega)|(apply Aa.Nw;rfl;rfl;rfl;rfl;omega)|(apply Ad.Ac;rfl)|(intro _;try (exfalso;omega)))
    all_goals try (exfalso;omega)
    refine Ah.normal ⟨k+1,by omega,by omega,⟨by omega,?_,?_⟩⟩
    ·exact C9
    ·rw [e2,e1];exact DR
   ·have e1:Fe x.Ae.length x.links (k+1)=Fe x.Ae.length x.links k++[(⟨Ox 67 (k:Int),((gi x.links k).VX:Int) % x.Ae.length,((gi x.links k).tgt:Int) % x.Ae.length,(gi x.links k).shift.tmod 25,(gi x.links k).through⟩:nZ)]:=by
     show Fe x.Ae.length x.links k++[Yw x.Ae.length (gi x.links k) k]=_;unfold Yw;rw [if_neg (fun h=>c2 h.2)]
    have e2:(Fe x.Ae.length x.links (k+1)).length=(Fe x.Ae.length x.links k).length+1:=by rw [e1];simp
    repeat' (first|(apply Aa.CW (a:=(⟨Ox 67 (k:Int),((gi x.links k).VX:Int) % x.Ae.length,((gi x.links k).tgt:Int) % x.Ae.length,(gi x.links k).shift.tmod 25,(gi x.links k).through⟩:nZ));rfl;rfl;rfl;rfl;rfl;rfl;rfl;rfl;(intro _ h;cases h);rfl;rfl;rfl;decide;decide;(first|omega|(simp only [List.length_take,List.length_drop,List.length_append,List.length_singleton,List.length_cons,List.length_nil]<;>omega)))|(apply Aa.Aj;rfl;rfl;rfl;omega;rfl)|refine Ij ?_|(apply Ai.guard;rfl;rfl)|(apply Aa.Ig;rfl;rfl;rfl;rfl;rfl;omega)|(apply Aa.int;rfl;rfl;rfl)|(apply Aa.build;rfl;rfl;rfl;rfl;rfl)|(apply Aa.buildSlice;rfl;rfl;rfl;decide;rfl;rfl;rfl)|(apply Aa.Yx;rfl;rfl;(first|omega|(simp only [List.length_take,List.length_drop,List.length_append,List.length_singleton,List.length_cons,List.length_nil]<;>omega)))|(apply Aa.Ia;rfl;rfl;rfl;rfl;omega)|(apply Aa.Nw;rfl;rfl;rfl;rfl;omega)|(apply Ad.Ac;rfl)|(intro _;try (exfalso;omega)))
    all_goals try (exfalso;omega)
    refine Ah.normal ⟨k+1,by omega,by omega,⟨by omega,?_,?_⟩⟩
    ·exact C9
    ·rw [e2,e1];exact DR
  ·have e1:Fe x.Ae.length x.links (k+1)=Fe x.Ae.length x.links k++[(⟨Ox 67 (k:Int),((gi x.links k).VX:Int) % x.Ae.length,((gi x.links k).tgt:Int) % x.Ae.length,(gi x.links k).shift.tmod 25,(gi x.links k).through⟩:nZ)]:=by
    show Fe x.Ae.length x.links k++[Yw x.Ae.length (gi x.links k) k]=_;unfold Yw;rw [if_neg (fun h=>c1 h.1)]
   have e2:(Fe x.Ae.length x.links (k+1)).length=(Fe x.Ae.length x.links k).length+1:=by rw [e1];simp
   repeat' (first|(apply Aa.CW (a:=(⟨Ox 67 (k:Int),((gi x.links k).VX:Int) % x.Ae.length,((gi x.links k).tgt:Int) % x.Ae.length,(gi x.links k).shift.tmod 25,(gi x.links k).through⟩:nZ));rfl;rfl;rfl;rfl;rfl;rfl;rfl;rfl;(intro _ h;cases h);rfl;rfl;rfl;decide;decide;(first|omega|(simp only [List.length_take,List.length_drop,List.length_append,List.length_singleton,List.length_cons,List.length_nil]<;>omega)))|(apply Aa.Aj;rfl;rfl;rfl;omega;rfl)|refine Ij ?_|(apply Ai.guard;rfl;rfl)|(apply Aa.Ig;rfl;rfl;rfl;rfl;rfl;omega)|(apply Aa.int;rfl;rfl;rfl)|(apply Aa.build;rfl;rfl;rfl;rfl;rfl)|(apply Aa.buildSlice;rfl;rfl;rfl;decide;rfl;rfl;rfl)|(apply Aa.Yx;rfl;rfl;(first|omega|(simp only [List.length_take,List.length_drop,List.length_append,List.length_singleton,List.length_cons,List.length_nil]<;>omega)))|(apply Aa.Ia;rfl;rfl;rfl;rfl;omega)|(apply Aa.Nw;rfl;rfl;rfl;rfl;omega)|(apply Ad.Ak;rfl)|(apply Ad.Ac;rfl)|(intro _;try (exfalso;omega)))
   all_goals try (exfalso;omega)
   refine Ah.normal ⟨k+1,by omega,by omega,⟨by omega,?_,?_⟩⟩
   ·exact C9
   ·rw [e2,e1];exact DR
 obtain rfl:k=x.links.length:=by omega
 repeat' (first|(refine Ad.at 26 ?_;refine Ad.ghost (Aw.Dn 2 3 rfl rfl rfl) ?_;first|apply Ad.BD|apply Ad.Cj)|refine go0 ?_|apply Ad.BD|(apply Ad.Ac;rfl)|(intro _;try (exfalso;omega)))
 all_goals first|(exfalso;omega)|(refine Done.rt rfl rfl ⟨?_,rfl,rfl⟩;rfl)
attribute [local irreducible] Ce Ba AZ
theorem qI (rk:List Hu) (l:List Brd):∀ k i,i<k→gi (G9 rk l k) i=tN rk (gi l i) i
 |k+1,i,h=>by
  simp only [G9,Ie,Nk];by_cases h1:i<k
  ·rw [if_pos h1];exact qI rk l k i h1
  grind
theorem jH (rk:List Hu) (lo hi:Int) (l:List Pul):∀ k i,i<k→gi (Gy rk lo hi l k) i=Uk rk lo hi (gi l i) i
 |k+1,i,h=>by
  simp only [Gy,Ie,Ii];by_cases h1:i<k
  ·rw [if_pos h1];exact jH rk lo hi l k i h1
  grind
theorem oC (n:Nat) (l:List Lnk):∀ k i,i<k→gi (Fe n l k) i=Yw n (gi l i) i
 |k+1,i,h=>by
  simp only [Fe,Ie,Q9];by_cases h1:i<k
  ·rw [if_pos h1];exact oC n l k i h1
  grind
theorem a5w (b:Brd):0≤EP b∧EP b≤Fg b∧Fg b≤127:=by unfold Fg EP;omega
structure xH (o:Ic):Prop where
 sm:Vh o
 ranks:1≤o.ranks.length∧o.ranks.length≤3
 Ae:1≤o.Ae.length∧o.Ae.length≤3
 I8:o.I8.length≤3
 stops:∀ i,i<o.Ae.length→(gi o.Ae i).stops.length≤3
 rk:zl o.ranks
 dv:∀ i,i<o.Ae.length→0≤(gi o.Ae i).lo∧(gi o.Ae i).lo≤(gi o.Ae i).hi∧(gi o.Ae i).hi≤127
 dn:∀ i,i<o.Ae.length→(gi o.Ae i).name=Ox 68 i
 st:∀ i,i<o.Ae.length→∀ j,j<(gi o.Ae i).stops.length→DX o.ranks (gi o.Ae i).lo (gi o.Ae i).hi (gi (gi o.Ae i).stops j)=0∧(gi (gi o.Ae i).stops j).name=Ox 83 j∧∃ a,a<6∧(gi (gi o.Ae i).stops j).Ec=gi SB a
 cp:∀ i,i<o.I8.length→a5r o.Ae.length (gi o.I8 i)∧(gi o.I8 i).name=Ox 67 i
 rn:∀ i,i<o.ranks.length→(gi o.ranks i).name=Ox 82 i
 nm:o.name=[79,114,103,97,110]
theorem b2r (n:Nat) (c:Lnk) (k:Nat) (hn:1≤n) (hc:c.Ok) (hk:k<10):a5r n (Yw n c k):=by
 obtain ⟨c1,c2,c3⟩:=hc;have m1:=bB (c.VX:Int) (show (n:Int)≠0 by omega);have m2:=bx (c.VX:Int) (show 0<(n:Int) by omega);have m3:=bB (c.tgt:Int) (show (n:Int)≠0 by omega);have m4:=bx (c.tgt:Int) (show 0<(n:Int) by omega);refine ⟨wP (by decide) hk,⟨m1,m2⟩,⟨m3,m4⟩,?_,?_⟩
 ·have e:(Yw n c k).shift=if (c.VX:Int) % n=(c.tgt:Int) % n∧c.shift.tmod 25=0 then 12 else c.shift.tmod 25:=rfl
  grind
 ·show ¬ ((c.VX:Int) % n=(c.tgt:Int) % n∧(if (c.VX:Int) % n=(c.tgt:Int) % n∧c.shift.tmod 25=0 then (12:Int) else c.shift.tmod 25)=0)
  omega
theorem b9i (x:GR) (i:Int):jA (WY x i):=by
 have h:=b1n x i;have w:=a9z x i;unfold WY at h w ⊢;refine ⟨by simp,?_,by omega⟩;have:(gi Vu (x.JO % 3)).length≤5:=b4z (P:=fun l:List UInt8=>l.length≤5) (by decide) (show x.JO % 3<Vu.length from bc _ (by decide));grind
theorem a5z (x:GR) (i:Nat) (hi:i<10):(WY x i).name=Ox 82 i:=by
 unfold WY Ox;grind
theorem oz (x:OPl) (hx:x.Ok) (hf:ZX x):xH (Zh x):=by
 obtain ⟨hf1,hf2,hf3,hf4⟩:=hf;have hR:=gB hx.ranks (by omega);have e1:(Zh x).ranks=EK x.ranks x.ranks.length:=rfl;have e2:(Zh x).Ae=G9 (EK x.ranks x.ranks.length) x.Ae x.Ae.length:=rfl;have e3:(Zh x).I8=Fe x.Ae.length x.links x.links.length:=rfl;have e4:(Zh x).name=[79,114,103,97,110]:=rfl;have rn:∀ i,i<x.ranks.length→gi (EK x.ranks x.ranks.length) i=WY (gi x.ranks i) (i:Int):=W9 _ _;generalize hRR:EK x.ranks x.ranks.length=R at *;have hRl:R.length=x.ranks.length:=by rw [← hRR,Ju]
 have dl:=Nk R x.Ae x.Ae.length;have cl:=Q9 x.Ae.length x.links x.links.length;have dg:∀ i,i<x.Ae.length→gi (G9 R x.Ae x.Ae.length) i=tN R (gi x.Ae i) i:=qI _ _ _;have cg:∀ i,i<x.links.length→gi (Fe x.Ae.length x.links x.links.length) i=Yw x.Ae.length (gi x.links i) i:=oC _ _ _;have ds:∀ b k,(tN R b k).stops=Gy R (EP b) (Fg b) b.stops b.stops.length:=fun _ _=>rfl
 have sp:∀ i,i<x.Ae.length→∀ j,j<(gi x.Ae i).stops.length→gi (Gy R (EP (gi x.Ae i)) (Fg (gi x.Ae i)) (gi x.Ae i).stops (gi x.Ae i).stops.length) j=Uk R (EP (gi x.Ae i)) (Fg (gi x.Ae i)) (gi (gi x.Ae i).stops j) j∧b0q R (EP (gi x.Ae i)) (Fg (gi x.Ae i)) (gi (gi x.Ae i).stops j) j (Uk R (EP (gi x.Ae i)) (Fg (gi x.Ae i)) (gi (gi x.Ae i).stops j) j):=fun i hi j hj =>
  ⟨jH _ _ _ _ _ _ hj,bZ R _ _ _ j hR (a5w _) ((hx.Ae i hi).all j hj) (by have:=hf4 i hi;omega)⟩
 refine ⟨⟨by rw [e4];simp,by rw [e1];omega,by rw [e2];omega,by rw [e3];omega,fun i hi=>?_,fun i hi=>?_,fun i hi=>?_⟩,by rw [e1];omega,by rw [e2];omega,by rw [e3];omega,fun i hi=>?_,by rw [e1];exact hR,fun i hi=>?_,fun i hi=>?_,fun i hi j hj=>?_,fun i hi=>?_,fun i hi=>?_,e4⟩
 ·rw [e1] at hi ⊢;rw [rn i (by omega)];exact b9i _ _
 ·rw [e2] at hi ⊢;rw [dg i (by omega)]
  refine ⟨by simp [tN,Ox],by rw [ds,Ii];have:=hf4 i (by omega);omega,fun j hj=>?_⟩;rw [ds,Ii] at hj;rw [ds,(sp i (by omega) j hj).1];exact (sp i (by omega) j hj).2.2.2.2.1
 ·rw [e3] at hi ⊢;rw [cg i (by omega)];simp [Yw,Ox]
 ·rw [e2] at hi ⊢;rw [dg i (by omega),ds,Ii];exact hf4 i (by omega)
 ·rw [e2] at hi ⊢;rw [dg i (by omega)];exact a5w _
 ·rw [e2] at hi ⊢;rw [dg i (by omega)];rfl
 ·rw [e2] at hi hj ⊢;rw [dg i (by omega),ds,Ii] at hj;rw [e1,dg i (by omega),ds,(sp i (by omega) j hj).1]
  exact ⟨(sp i (by omega) j hj).2.2.2.1,(sp i (by omega) j hj).2.2.1,(sp i (by omega) j hj).2.2.2.2.2⟩
 ·rw [e3] at hi ⊢;rw [e2,dl,cg i (by omega)]
  exact ⟨b2r _ _ _ (by omega) (hx.links i (by omega)) (by omega),rfl⟩
 ·rw [e1] at hi ⊢;rw [rn i (by omega)];exact a5z _ _ (by omega)
theorem b7k:DF [79,114,103,97,110]:=by
 refine ⟨by decide,by decide,by decide,fun i h1 h2=>?_⟩;have:i=1∨i=2∨i=3∨i=4:=by simp at h2;omega
 rcases this with rfl|rfl|rfl|rfl<;>exact .inl (by decide)
theorem xH.ok {o:Ic} (h:xH o):WU o=0:=by
 have r1:=h.ranks;have d1:=h.Ae;have c1:=h.I8;unfold WU;rw [if_neg (fun h'=>h' (h.nm▸b7k)),if_neg (by omega)];have hr:Qd o.ranks 0=0:=WM (fun i hi=>⟨(h.rk.ok i hi).1,lW (c:=82) (by omega) h.rn hi⟩) _ 0 rfl;rw [if_neg (fun h'=>h' hr),if_neg (by omega),if_neg (by omega)];have hd:Gt o.ranks o.Ae 0=0:=TV (fun i hi=>by
  have s1:=h.stops i hi;refine ⟨by rw [h.dn i hi];exact wP (by decide) (by omega),lW (c:=68) (by omega) h.dn hi,?_⟩;unfold DJ;rw [Wx (h.dv i hi),if_neg (fun h=>h rfl),if_neg (by omega)];exact TU (fun j hj=>⟨(h.st i hi j hj).1,lW (c:=83) (by omega) (fun a ha=>(h.st i hi a ha).2.1) hj⟩) _ 0 rfl) _ 0 rfl
 rw [if_neg (fun h'=>h' hd)];unfold En;rw [if_neg (by grind)];have hc:TN (o.Ae.map fun d=>⟨d.lo,d.hi⟩) 0=0:=VI (fun i hi=>by
  rw [bk] at hi;have e:gi (o.Ae.map fun d=>(⟨d.lo,d.hi⟩:oq)) i=⟨(gi o.Ae i).lo,(gi o.Ae i).hi⟩:=by simp [gi,List.getElem?_eq_getElem hi]
  rw [e];exact Wx (h.dv i hi)) _ 0 rfl
 rw [if_neg (fun h'=>h' hc),bk];exact Ti (fun i hi=>⟨(h.cp i hi).1,lW (c:=67) (by omega) (fun a ha=>(h.cp a ha).2) hi⟩) _ 0 rfl
end Go.Proofs.YtnjkoebfgcbbdaaGreatDoor
namespace Go.Proofs.YtnjkoebfgcbbdaaGreatDoor
open Go Go.Am Go.Vm
attribute [local irreducible] Aa Ai Ag Ad AO Ap Bc BK Bh Ah Vm.Done Bv AB
attribute [local irreducible] Ce Ba
theorem ZJ (lo hi:Int):Ap env 110 [.agg [.int .i64 lo,.int .i64 hi]] (.p (.int .i64 (Yn lo hi))):=by
 unfold Yn;refine Ap.enter (Af (by decide)) Tryz.func110 rfl (by kernel_rfl) (by simp) ?_
 repeat' (first|refine Eu ?_|(apply Ai.guard;rfl;rfl)|(apply Ad.cond_true;rfl)|(apply Ad.Aq;rfl)|(intro _))
 all_goals first
  |(rw [if_pos (by omega)];(refine Done.rt rfl rfl ⟨?_,rfl,rfl⟩;try rfl);done)
  |(rw [if_neg (by omega),if_pos (by omega)];(refine Done.rt rfl rfl ⟨?_,rfl,rfl⟩;try rfl);done)
  |(rw [if_neg (by omega),if_neg (by omega)];(refine Done.rt rfl rfl ⟨?_,rfl,rfl⟩;try rfl);done)
theorem ug:aY Tryz.prog 270=true:=by kernel_rfl
theorem b8u (x y:uK):Vm.kX Tryz.prog 270 (Enc.enc x) (Enc.enc y)=some (decide (x=y)):=by
 show some (decide (x.rank=y.rank)&&(decide (x.shift=y.shift)&&true))=_;by_cases h:x=y
 ·grind
 ·have:¬ (x.rank=y.rank∧x.shift=y.shift):=fun h'=>h (by cases x;simp_all)
  by_cases h1:x.rank=y.rank<;>simp_all
theorem aU {α:Type} [Inhabited α] {a:α} {l:List α}:a∈l↔∃ i,i<l.length∧gi l i=a:=by
 constructor
 ·intro h
  obtain ⟨i,hi,e⟩:=ed h;exact ⟨i,hi,by simp [gi,List.getElem?_eq_getElem hi,e]⟩
 ·rintro ⟨i,hi,e⟩
  rw [← e];simp only [gi,List.getElem?_eq_getElem hi,Option.getD_some];simp
theorem YH {α:Type} [Inhabited α] {l:List α} {i k:Nat} (h:i<k):gi (l.take k) i=gi l i:=by simp [gi,List.getElem?_take,h]
theorem DZ {α:Type} [Inhabited α] {l:List α} {k:Nat} (hk:k<l.length):l.take (k+1)=l.take k++[gi l k]:=by
 simp [gi,List.getElem?_eq_getElem hk]
theorem b4d {L:Vm.Frame} {H:Vm.Heap} {nx:Nat} {Q:PV→Vm.Heap→Nat→Prop} {dst:Option Tmp} {ty:TypeId} {pos:String} {af:Array Edge} {gd:Option (Nat×Bool)} {fo:Operand} {args:Array Operand} {aT:Array TypeId} {fs cs xs:List PV} {c:Code}
 (hf:AU env.Γ L fo=some (.clo 206 fs cs)) (ha:evs env.Γ L args.toList=some xs) (hb:Tryz.f206.body=some c) (hn:(fs++xs++cs).length≤Tryz.f206.ntmps)
 (h:Ad env nx c (Ci 0 (fs++xs++cs)) H nx (AB env.P Tryz.f206.results.toList Q)):Aa env true ⟨dst,.call { callee:=.value fo,args:=args,argTypes:=aT },ty,pos,af,gd⟩ L H nx Q:=by
 have h0:(match Tryz.f206.body with|some c=>IJ env.G Tryz.f206 c|none=>false)=true:=by kernel_rfl
 rw [hb] at h0;exact Aa.inline rfl hf ha (Af (by decide)) Tryz.func206 hb h0 hn h
theorem fG (l:List uK) (d:uK) (hl:l.length<1000000):Ap env 199 [.lst 270 (cells l) l.length,.agg (Enc.enc d)] (.p (.bool (decide (d∈l)))):=by
 refine Ap.enter (Af (by decide)) Tryz.func199 rfl (by kernel_rfl) (by simp) ?_
 repeat' (first|(apply b4d;rfl;rfl;rfl;exact le_dec rfl)|refine go1 ?_|fail)
 refine Ad.DL (fun k:Nat=>[(0,lst 270 l),(3,.ref 1 0),(7,.p (.int .i64 (l.length:Int))),(8,.p (.int .i64 (k:Int)))]) (fun _=>[(1,.box 270 ((Enc.enc d).map .p)),(0,.box 270 ((Enc.enc d).map .p))]) 2 (fun k=>k≤l.length∧∀ i,i<k→d≠gi l i) (fun k=>l.length-k) 0 (by omega) ⟨by omega,fun i hi=>by omega⟩ ⟨by omega,?_,?_⟩ ?_
 ·exact C9
 ·exact DR
 rintro k ⟨hk,hok⟩;have he:=b8u d (gi l k);by_cases hd:d=gi l k
 ·rw [decide_eq_true hd] at he
  repeat' (first|(apply Aa.b5p;rfl;rfl;exact ug;exact he)|(apply Aa.Aj;rfl;rfl;rfl;omega;rfl)|refine Ij ?_|(apply AB.ret;rfl)|(apply Aa.int;rfl;rfl;rfl)|(apply Ad.Ac;rfl)|(apply Ad.cond_true;rfl)|(intro _;try (exfalso;omega)))
  ·rename_i a1
   rw [decide_eq_true (aU.2 ⟨k,by omega,hd.symm⟩)];refine Done.rt rfl rfl ⟨?_,rfl,rfl⟩;rfl
  ·rename_i a1
   rw [decide_eq_false (fun h=>by obtain ⟨i,h1,h2⟩:=aU.1 h;grind)]
   (refine Done.rt rfl rfl ⟨?_,rfl,rfl⟩;try rfl)
 ·rw [decide_eq_false hd] at he
  repeat' (first|(apply Aa.b5p;rfl;rfl;exact ug;exact he)|(apply Aa.Aj;rfl;rfl;rfl;omega;rfl)|refine Ij ?_|(apply AB.ret;rfl)|(apply Aa.int;rfl;rfl;rfl)|(apply Ad.Ac;rfl)|(apply Ad.cond_false;rfl)|(intro _;try (exfalso;omega)))
  ·rename_i a1
   refine Ah.normal ⟨k+1,⟨by omega,fun i hi=>?_⟩,by omega,⟨by omega,?_,?_⟩⟩
   ·grind
   ·exact C9
   ·exact DR
  ·rename_i a1
   rw [decide_eq_false (fun h=>by obtain ⟨i,h1,h2⟩:=aU.1 h;exact hok i (by omega) h2.symm)]
   (refine Done.rt rfl rfl ⟨?_,rfl,rfl⟩;try rfl)
def a3z (rk:List Hu) (lo hi:Int):List FV:=[.lst 113 (cells rk) rk.length,.int .i64 lo,.int .i64 hi]
theorem xM (rk:List Hu) (lo hi:Int) (l:List uK) (hl:l.length<1000000) (hr:rk.length<1000000):Ap env 182 [.agg (a3z rk lo hi),.lst 270 (cells l) l.length] (.p (.int .i64 (Zk rk.length l))):=by
 unfold Zk;refine Ap.enter (Af (by decide)) Tryz.func182 rfl (by kernel_rfl) (by simp [Tryz.ntmps182]) ?_
 repeat' (first|refine Eu ?_|(apply Ad.Ac;rfl)|(intro _;try (exfalso;omega)))
 ·rw [if_pos (by omega)];(refine Done.rt rfl rfl ⟨?_,rfl,rfl⟩;try rfl)
 rw [if_neg (by omega)];refine Ad.DL (fun k:Nat=>[(1,lst 270 l),(2,.ref 0 0),(10,lst 270 l),(11,.p (.int .i64 (l.length:Int))),(12,.p (.int .i64 (k:Int)))]) (fun _=>[(0,.box 277 ((a3z rk lo hi).map .p))]) 1 (fun k=>k≤l.length∧Sm rk.length l k=Sm rk.length l 0) (fun k=>l.length-k) 0 (by omega) ⟨by omega,rfl⟩ ⟨by omega,?_,?_⟩ ?_
 ·exact C9
 ·exact DR
 rintro k ⟨hk,hE⟩;have hc:=fG (l.take k) (gi l k) (by rw [az];omega);rw [az,cM (by omega)] at hc;rw [← hE];by_cases hkl:k<l.length
 ·rw [Sm,if_pos hkl]
  generalize hg:decide (gi l k∈l.take k)=g at *;cases g;all_goals
   repeat' (first|(apply Aa.fn;rfl;rfl;exact hc;intro _;rfl)|(apply Aa.Aj;rfl;rfl;rfl;omega;rfl)|refine Ij ?_|apply Ad.KO|(apply Ai.guard;rfl;rfl)|(apply Aa.sliceTo;rfl;rfl;rfl;rfl;rfl;rfl;omega)|(apply Aa.int;rfl;rfl;rfl)|(apply Ad.Ac;rfl)|(apply Ad.cond_true;rfl)|(apply Ad.cond_false;rfl)|(apply Ad.Aq;rfl)|(intro _;try (exfalso;omega)))
  all_goals try (exfalso;omega)
  all_goals first
   |(rw [if_pos (by omega)];(refine Done.rt rfl rfl ⟨?_,rfl,rfl⟩;try rfl);done)
   |(rw [if_neg (by omega),if_pos (by omega)];(refine Done.rt rfl rfl ⟨?_,rfl,rfl⟩;try rfl);done)
   |(rw [if_neg (by omega),if_neg (by omega),if_pos (of_decide_eq_true hg)];(refine Done.rt rfl rfl ⟨?_,rfl,rfl⟩;try rfl);done)
   |(rw [if_neg (by omega),if_neg (by omega),if_neg (of_decide_eq_false hg)]
     refine Ah.normal ⟨k+1,⟨by omega,?_⟩,by omega,⟨by omega,?_,?_⟩⟩
     ·first|rfl|(refine er ?_ hE;symm;(conv=>lhs;rw [Sm]);rw [if_pos hkl,if_neg (by omega),if_neg (by omega),if_neg (of_decide_eq_false hg)])
     ·exact C9
     ·exact DR)
 ·rw [Sm,if_neg hkl]
  repeat' (first|refine Eu ?_|(apply Ad.Ac;rfl)|(intro _;try (exfalso;omega)))
  all_goals first|(exfalso;omega)|(refine Done.rt rfl rfl ⟨?_,rfl,rfl⟩;try rfl)
theorem xJ (rk:List Hu) (lo hi:Int) (hr:rk.length<1000000) (hs:∀ i,i<rk.length→jA (gi rk i)):Ap env 181 [.agg (a3z rk lo hi)] (.p (.int .i64 (uF rk lo hi))):=by
 have hcm:=ZJ lo hi;unfold uF;refine Ap.enter (Af (by decide)) Tryz.func181 rfl (by kernel_rfl) (by simp) ?_
 repeat' (first|refine Eu ?_|(apply Ad.Ac;rfl)|(intro _;try (exfalso;omega)))
 ·rw [if_pos (by omega)];(refine Done.rt rfl rfl ⟨?_,rfl,rfl⟩;try rfl)
 rw [if_neg (by omega)];refine Ad.DL (fun k:Nat=>[(1,.ref 0 0),(11,lst 113 rk),(12,.p (.int .i64 (rk.length:Int))),(13,.p (.int .i64 (k:Int)))]) (fun _=>[(0,.box 277 ((a3z rk lo hi).map .p))]) 1 (fun k=>k≤rk.length∧eG rk k=eG rk 0) (fun k=>rk.length-k) 0 (by omega) ⟨by omega,rfl⟩ ⟨by omega,?_,?_⟩ ?_
 ·exact C9
 ·exact DR
 rintro k ⟨hk,hE⟩;rw [← hE];by_cases hkl:k<rk.length
 ·have hsm:=(hs k hkl).len
  have hc:=Xl (gi rk k) hsm.1 hsm.2.1 hsm.2.2;rw [eG,if_pos hkl];by_cases h0:Ce (gi rk k)=0
  ·rw [h0] at hc ⊢
   rw [if_neg (by decide)]
   repeat' (first|(apply Aa.fn;rfl;rfl;exact hc;intro _;rfl)|(apply Aa.Aj;rfl;rfl;rfl;omega;rfl)|refine go1 ?_|(apply Aa.int;rfl;rfl;rfl)|(apply Ad.Ac;rfl)|(apply Ad.cond_false;rfl)|(intro _;try (exfalso;omega)))
   all_goals try (exfalso;omega)
   refine Ah.normal ⟨k+1,⟨by omega,?_⟩,by omega,⟨by omega,?_,?_⟩⟩
   ·rfl
   ·exact C9
   ·exact DR
  ·rw [if_pos h0,if_pos h0]
   repeat' (first|(apply Aa.fn;rfl;rfl;exact hc;intro _;rfl)|(apply Aa.Aj;rfl;rfl;rfl;omega;rfl)|refine go1 ?_|(apply Aa.int;rfl;rfl;rfl)|(apply Ad.Ac;rfl)|(apply Ad.Aq;rfl)|(intro _;try (exfalso;omega)))
   all_goals first|(exfalso;omega)|(refine Done.rt rfl rfl ⟨?_,rfl,rfl⟩;try rfl)
 ·rw [eG,if_neg hkl,if_neg (by decide)]
  repeat' (first|(apply Aa.fn;rfl;rfl;exact hcm;intro _;rfl)|refine Ij ?_|(apply Aa.int;rfl;rfl;rfl)|(apply Ad.Ac;rfl)|(intro _;try (exfalso;omega)))
  all_goals first|(exfalso;omega)|(refine Done.rt rfl rfl ⟨?_,rfl,rfl⟩;try rfl)
theorem a4u (rk:List Hu) (lo hi:Int) (s:Stp) (hr:rk.length<1000000) (hs:∀ i,i<rk.length→jA (gi rk i)) (hS:uI s):Ap env 157 [.agg (a3z rk lo hi),.agg (Enc.enc s)] (.p (.int .i64 (DX rk lo hi s))):=by
 obtain ⟨q1,q2,q3⟩:=hS;have hp:=xJ rk lo hi hr hs;have hn:=IC s.name (by omega);have hf:=MF s.Ec;unfold DX b7i;refine Ap.enter (Af (by decide)) Tryz.func157 rfl (by kernel_rfl) (by simp [Tryz.ntmps157]) ?_;by_cases h0:uF rk lo hi=0
 case neg =>
  rw [if_pos h0]
  repeat' (first|(apply Aa.fn;rfl;rfl;exact hp;intro _;rfl)|refine go1 ?_|(apply Aa.int;rfl;rfl;rfl)|(apply Ad.Ac;rfl)|(intro _;try (exfalso;omega)))
  all_goals first|(exfalso;omega)|(refine Done.rt rfl rfl ⟨?_,rfl,rfl⟩;try rfl)
 rw [h0] at hp ⊢;rw [if_neg (by decide)];by_cases h1:DF s.name
 case neg =>
  rw [if_pos h1];rw [decide_eq_false h1] at hn
  repeat' (first|(apply Aa.fn;rfl;rfl;exact hp;intro _;rfl)|(apply Aa.fn;rfl;rfl;exact hn;intro _;rfl)|refine go1 ?_|(apply Aa.int;rfl;rfl;rfl)|(apply Ad.AX;rfl)|(apply Ad.Ak;rfl))
  all_goals first|contradiction|(exfalso;omega)|(refine Done.rt rfl rfl ⟨?_,rfl,rfl⟩;try rfl)
 rw [if_neg (fun h=>h h1)];rw [decide_eq_true h1] at hn;by_cases h2:RN s.Ec=0
 case neg =>
  rw [if_pos h2]
  repeat' (first|(apply Aa.fn;rfl;rfl;exact hp;intro _;rfl)|(apply Aa.fn;rfl;rfl;exact hn;intro _;rfl)|(apply Aa.fn;rfl;rfl;exact hf;intro _;rfl)|refine go1 ?_|(apply Aa.int;rfl;rfl;rfl)|(apply Ad.Ak;rfl)|(apply Ad.Ac;rfl)|(intro _;try (exfalso;omega)))
  all_goals first|contradiction|(exfalso;omega)|(refine Done.rt rfl rfl ⟨?_,rfl,rfl⟩;try rfl)
 rw [if_neg (fun h=>h h2)];rw [h2] at hf
 repeat' (first|(apply Aa.fn;rfl;rfl;exact hp;intro _;rfl)|(apply Aa.fn;rfl;rfl;exact hn;intro _;rfl)|(apply Aa.fn;rfl;rfl;exact hf;intro _;rfl)|refine go1 ?_|(apply Aa.int;rfl;rfl;rfl)|(apply Ad.Ak;rfl)|(apply Ad.Aq;rfl)|(intro _;try (exfalso;omega)))
 all_goals try contradiction
 all_goals try (exfalso;omega)
 ·rw [if_pos (by omega)];(refine Done.rt rfl rfl ⟨?_,rfl,rfl⟩;try rfl)
 ·rw [if_neg (by omega),if_pos (by omega)];(refine Done.rt rfl rfl ⟨?_,rfl,rfl⟩;try rfl)
 rw [if_neg (by omega),if_neg (by omega)];refine Ad.DL (fun k:Nat=>[(2,.ref 0 0),(3,.ref 1 0),(36,lst 273 s.I9),(37,.p (.int .i64 (s.I9.length:Int))),(38,.p (.int .i64 (k:Int)))]) (fun _=>[(1,.box 229 ((Enc.enc s).map .p)),(0,.box 277 ((a3z rk lo hi).map .p))]) 2 (fun k=>k≤s.I9.length∧MP rk.length lo hi s.I9 k=MP rk.length lo hi s.I9 0) (fun k=>s.I9.length-k) 0 (by omega) ⟨by omega,rfl⟩ ⟨by omega,?_,?_⟩ ?_
 ·exact C9
 ·exact DR
 rintro k ⟨hk,hE⟩;rw [← hE];by_cases hkl:k<s.I9.length
 ·have hsm:=(q3 k hkl).draws
  have hd:=xM rk lo hi (gi s.I9 k).draws hsm hr;rw [MP,if_pos hkl];have hk1:((k:Int)-1).toNat=k-1:=by omega
  have hkc:0<k→((k-1:Nat):Int)=(k:Int)-1:=fun h=>by omega
  generalize hD:Zk rk.length (gi s.I9 k).draws=D at *
  repeat' (first|(apply Aa.fn;rfl;rfl;exact hd;intro _;rfl)|(apply Aa.Aj;rfl;rfl;rfl;omega;rfl)|(apply Aa.a9e;rfl;rfl;rfl;omega;omega;rfl)|refine fP ?_|(apply Ai.guard;rfl;rfl)|(apply Ag.guard;rfl;rfl)|(apply Ag.Xc;rfl;rfl)|(apply Aa.int;rfl;rfl;rfl)|(apply Aa.yO;rfl;rfl)|(apply Aa.a6k;rfl;rfl)|(apply Ad.Ac;rfl)|(apply Ad.cond_true;rfl)|(apply Ad.cond_false;rfl)|(apply Ad.Aq;rfl)|(intro _;try (exfalso;omega)))
  all_goals try (exfalso;omega)
  all_goals first
   |(rw [if_pos (by omega)];(refine Done.rt rfl rfl ⟨?_,rfl,rfl⟩;try rfl);done)
   |(rw [if_neg (by omega),if_pos (by omega)];(refine Done.rt rfl rfl ⟨?_,rfl,rfl⟩;try rfl);done)
   |(rw [if_neg (by omega),if_neg (by omega),if_pos (by omega)];(refine Done.rt rfl rfl ⟨?_,rfl,rfl⟩;try rfl);done)
   |(rw [if_neg (by omega),if_neg (by omega),if_neg (by omega)]
     refine Ah.normal ⟨k+1,⟨by omega,?_⟩,by omega,⟨by omega,?_,?_⟩⟩
     ·first|rfl|(refine er ?_ hE;symm;(conv=>lhs;rw [MP]);rw [if_pos hkl,if_neg (by omega),if_neg (by omega),if_neg (by omega)])
     ·exact C9
     ·exact DR)
 ·rw [MP,if_neg hkl]
  repeat' (first|refine Eu ?_|(apply Ad.Ac;rfl)|(intro _;try (exfalso;omega)))
  all_goals first|(exfalso;omega)|(refine Done.rt rfl rfl ⟨?_,rfl,rfl⟩;try rfl)
theorem b3t {L:Vm.Frame} {H:Vm.Heap} {nx:Nat} {Q:PV→Vm.Heap→Nat→Prop} {dst:Option Tmp} {ty:TypeId} {pos:String} {af:Array Edge} {gd:Option (Nat×Bool)} {fo:Operand} {args:Array Operand} {aT:Array TypeId} {fs cs xs:List PV} {c:Code}
 (hf:AU env.Γ L fo=some (.clo 158 fs cs)) (ha:evs env.Γ L args.toList=some xs) (hb:Tryz.f158.body=some c) (hn:(fs++xs++cs).length≤Tryz.f158.ntmps)
 (h:Ad env nx c (Ci 0 (fs++xs++cs)) H nx (AB env.P Tryz.f158.results.toList Q)):Aa env true ⟨dst,.call { callee:=.value fo,args:=args,argTypes:=aT },ty,pos,af,gd⟩ L H nx Q:=by
 have h0:(match Tryz.f158.body with|some c=>IJ env.G Tryz.f158 c|none=>false)=true:=by kernel_rfl
 rw [hb] at h0;exact Aa.inline rfl hf ha (Af (by decide)) Tryz.func158 hb h0 hn h
theorem b2i {L:Vm.Frame} {H:Vm.Heap} {nx:Nat} {Q:PV→Vm.Heap→Nat→Prop} {dst:Option Tmp} {ty:TypeId} {pos:String} {af:Array Edge} {gd:Option (Nat×Bool)} {fo:Operand} {args:Array Operand} {aT:Array TypeId} {fs cs xs:List PV} {c:Code}
 (hf:AU env.Γ L fo=some (.clo 183 fs cs)) (ha:evs env.Γ L args.toList=some xs) (hb:Tryz.f183.body=some c) (hn:(fs++xs++cs).length≤Tryz.f183.ntmps)
 (h:Ad env nx c (Ci 0 (fs++xs++cs)) H nx (AB env.P Tryz.f183.results.toList Q)):Aa env true ⟨dst,.call { callee:=.value fo,args:=args,argTypes:=aT },ty,pos,af,gd⟩ L H nx Q:=by
 have h0:(match Tryz.f183.body with|some c=>IJ env.G Tryz.f183 c|none=>false)=true:=by kernel_rfl
 rw [hb] at h0;exact Aa.inline rfl hf ha (Af (by decide)) Tryz.func183 hb h0 hn h
theorem zW {L:Vm.Frame} {H:Vm.Heap} {nx:Nat} {Q:PV→Vm.Heap→Nat→Prop} {dst:Option Tmp} {ty:TypeId} {pos:String} {af:Array Edge} {gd:Option (Nat×Bool)} {fo:Operand} {args:Array Operand} {aT:Array TypeId} {fs cs xs:List PV} {c:Code}
 (hf:AU env.Γ L fo=some (.clo 159 fs cs)) (ha:evs env.Γ L args.toList=some xs) (hb:Tryz.f159.body=some c) (hn:(fs++xs++cs).length≤Tryz.f159.ntmps)
 (h:Ad env nx c (Ci 0 (fs++xs++cs)) H nx (AB env.P Tryz.f159.results.toList Q)):Aa env true ⟨dst,.call { callee:=.value fo,args:=args,argTypes:=aT },ty,pos,af,gd⟩ L H nx Q:=by
 have h0:(match Tryz.f159.body with|some c=>IJ env.G Tryz.f159 c|none=>false)=true:=by kernel_rfl
 rw [hb] at h0;exact Aa.inline rfl hf ha (Af (by decide)) Tryz.func159 hb h0 hn h
theorem mX (ks:List oq) (l:List nZ) (hk0:ks.length<1000000) (hl:l.length<1000000) (hn0:∀ i,i<l.length→(gi l i).name.length<1000000):Ap env 121 [.lst 115 (cells ks) ks.length,.lst 236 (cells l) l.length] (.p (.int .i64 (En ks l))):=by
 unfold En;refine Ap.enter (Af (by decide)) Tryz.func121 rfl (by kernel_rfl) (by simp [Tryz.ntmps121]) ?_;by_cases h0:ks.length>8∨l.length>40
 ·rw [if_pos h0]
  repeat' (first|refine Eu ?_|(apply Ai.guard;rfl;rfl)|(apply Ad.AX;rfl)|(apply Ad.Ac;rfl)|(intro _;try (exfalso;omega)))
  all_goals first|(exfalso;omega)|(refine Done.rt rfl rfl ⟨?_,rfl,rfl⟩;try rfl)
 rw [if_neg h0]
 repeat' (first|refine Eu ?_|(apply Ai.guard;rfl;rfl)|(apply Ad.Ac;rfl)|(intro _;try (exfalso;omega)))
 all_goals try (exfalso;omega)
 refine Ad.DL (fun k:Nat=>[(0,lst 115 ks),(1,lst 236 l),(17,lst 115 ks),(18,.p (.int .i64 (ks.length:Int))),(19,.p (.int .i64 (k:Int)))]) (fun _=>[]) 0 (fun k=>k≤ks.length∧TN ks k=TN ks 0) (fun k=>ks.length-k) 0 (by omega) ⟨by omega,rfl⟩ ⟨by omega,?_,BI.nil⟩ ?_
 ·exact C9
 rintro k ⟨hk,hE⟩;by_cases hkl:k<ks.length
 ·have hc:=ZJ (gi ks k).lo (gi ks k).hi
  by_cases h1:Yn (gi ks k).lo (gi ks k).hi=0
  ·rw [h1] at hc
   repeat' (first|(apply Aa.fn;rfl;rfl;exact hc;intro _;rfl)|(apply Aa.Aj;rfl;rfl;rfl;omega;rfl)|refine go1 ?_|(apply Aa.int;rfl;rfl;rfl)|(apply Ad.Ac;rfl)|(apply Ad.cond_false;rfl)|(intro _;try (exfalso;omega)))
   all_goals try (exfalso;omega)
   all_goals try contradiction
   refine Ah.normal ⟨k+1,⟨by omega,?_⟩,by omega,⟨by omega,?_,BI.nil⟩⟩
   ·first|rfl|(refine er ?_ hE;symm;(conv=>lhs;rw [TN]);rw [if_pos hkl,if_neg (fun h=>h h1)])
   ·exact C9
  ·have e:TN ks 0=23:=by rw [← hE,TN,if_pos hkl,if_pos h1]
   rw [if_pos (by rw [e];decide),e]
   repeat' (first|(apply Aa.fn;rfl;rfl;exact hc;intro _;rfl)|(apply Aa.Aj;rfl;rfl;rfl;omega;rfl)|refine go1 ?_|(apply Aa.int;rfl;rfl;rfl)|(apply Ad.Ac;rfl)|(apply Ad.Aq;rfl)|(intro _;try (exfalso;omega)))
   all_goals first|(exfalso;omega)|contradiction|(refine Done.rt rfl rfl ⟨?_,rfl,rfl⟩;try rfl)
 obtain rfl:k=ks.length:=by omega
 have e:TN ks 0=0:=by rw [← hE,TN,if_neg (by omega)]
 rw [if_neg (fun h=>h e)]
 repeat' (first|refine Eu ?_|(apply Ad.Ac;rfl)|(intro _;try (exfalso;omega)))
 all_goals try (exfalso;omega)
 refine Ad.DL (fun k:Nat=>[(0,lst 115 ks),(1,lst 236 l),(27,lst 236 l),(28,.p (.int .i64 (l.length:Int))),(29,.p (.int .i64 (k:Int)))]) (fun _=>[]) 0 (fun k=>k≤l.length∧Sj ks.length l k=Sj ks.length l 0) (fun k=>l.length-k) 0 (by omega) ⟨by omega,rfl⟩ ⟨by omega,?_,BI.nil⟩ ?_
 ·exact C9
 rintro k ⟨hk,hE⟩;rw [← hE];by_cases hkl:k<l.length
 case neg =>
  rw [Sj,if_neg hkl]
  repeat' (first|refine Eu ?_|(apply Ad.Ac;rfl)|(intro _;try (exfalso;omega)))
  all_goals first|(exfalso;omega)|(refine Done.rt rfl rfl ⟨?_,rfl,rfl⟩;try rfl)
 rw [Sj,if_pos hkl];have hN:=IC (gi l k).name (by have:=hn0 k hkl;omega);by_cases h1:DF (gi l k).name
 case neg =>
  rw [if_pos h1];rw [decide_eq_false h1] at hN
  repeat' (first|(apply Aa.fn;rfl;rfl;exact hN;intro _;rfl)|(apply Aa.Aj;rfl;rfl;rfl;omega;rfl)|refine go1 ?_|apply Ad.KO|(apply Aa.int;rfl;rfl;rfl)|(apply Ad.Ac;rfl)|(apply Ad.cond_true;rfl)|(intro _;try (exfalso;omega)))
  all_goals first|(exfalso;omega)|contradiction|(refine Done.rt rfl rfl ⟨?_,rfl,rfl⟩;try rfl)
 rw [if_neg (fun h=>h h1)];rw [decide_eq_true h1] at hN;have hT:(gi l k).name∈(l.take k).map nZ.name↔∃ j,j<k∧(gi l j).name=(gi l k).name:=by
  rw [ba];constructor
  ·rintro ⟨a,ha,e⟩
   obtain ⟨j,h1,h2⟩:=aU.1 ha;rw [az] at h1;rw [YH (by omega)] at h2;exact ⟨j,by omega,by rw [h2,e]⟩
  ·rintro ⟨j,hj,e⟩
   exact ⟨gi l j,aU.2 ⟨j,by rw [az];omega,YH hj⟩,e⟩
 repeat' (first|(apply Aa.fn;rfl;rfl;exact hN;intro _;rfl)|(apply b3t;rfl;rfl;rfl;exact le_dec rfl)|(apply b2i;rfl;rfl;rfl;exact le_dec rfl)|(apply Aa.makeFunc;rfl;rfl)|(apply Aa.Aj;rfl;rfl;rfl;omega;rfl)|refine go1 ?_|apply Ad.KO|(apply Aa.sliceTo;rfl;rfl;rfl;rfl;rfl;rfl;omega)|(apply Aa.int;rfl;rfl;rfl)|(apply Ad.Ac;rfl)|(apply Ad.cond_false;rfl)|(intro _;try (exfalso;omega)))
 all_goals try (exfalso;omega)
 all_goals try contradiction
 refine Ad.DL (fun j:Nat=>[(0,.p (.lst 236 (cells (l.take k)) k)),(1,.clo 159 [] [.ref 0 0]),(7,.p (.int .i64 (k:Int))),(8,.p (.int .i64 (j:Int)))]) (fun _=>[(0,.box 236 ((Enc.enc (gi l k)).map .p))]) 1 (fun j=>j≤k∧∀ i,i<j→(gi l i).name≠(gi l k).name) (fun j=>k-j) 0 (by omega) ⟨by omega,fun i hi=>by omega⟩ ⟨by omega,?_,?_⟩ ?_
 ·exact C9
 ·exact DR
 rintro j ⟨hj,hok⟩;by_cases hjk:j<k
 ·have hgt:gi (l.take k) j=gi l j:=YH hjk
  have hlt:(l.take k).length=k:=by rw [az];omega
  generalize hg:decide ((gi l j).name=(gi l k).name)=g at *;have hg2:decide ((gi (l.take k) j).name=(gi l k).name)=g:=by rw [hgt];exact hg
  cases g
  ·repeat' (first|(apply zW;rfl;rfl;rfl;exact le_dec rfl)|(apply Aa.c3a;rfl;rfl;exact hg2)|(apply Aa.Aj (l:=l.take k) (i:=j);rfl;rfl;rfl;omega;exact hlt)|refine go1 ?_|(apply AB.ret;rfl)|(apply Aa.int;rfl;rfl;rfl)|(apply Ad.Ac;rfl)|(apply Ad.cond_false;rfl)|(intro _;try (exfalso;omega)))
   all_goals try (exfalso;omega)
   refine Ah.normal ⟨j+1,⟨by omega,fun i hi=>?_⟩,by omega,⟨by omega,?_,?_⟩⟩
   ·rcases an i j with h|h
    ·exact hok i h
    ·obtain rfl:i=j:=by omega
     exact of_decide_eq_false hg
   ·exact C9
   ·exact DR
  ·rw [if_pos (hT.2 ⟨j,hjk,of_decide_eq_true hg⟩)]
   repeat' (first|(apply zW;rfl;rfl;rfl;exact le_dec rfl)|(apply Aa.c3a;rfl;rfl;exact hg2)|(apply Aa.Aj (l:=l.take k) (i:=j);rfl;rfl;rfl;omega;exact hlt)|refine go1 ?_|(apply AB.ret;rfl)|(apply Aa.int;rfl;rfl;rfl)|(apply Ad.Ac;rfl)|(apply Ad.cond_true;rfl)|(intro _;try (exfalso;omega)))
   all_goals first|(exfalso;omega)|contradiction|(refine Done.rt rfl rfl ⟨?_,rfl,rfl⟩;try rfl)
 obtain rfl:j=k:=by omega
 rw [if_neg (fun h=>by obtain ⟨i,h1,h2⟩:=hT.1 h;exact hok i h1 h2)]
 repeat' (first|refine Eu ?_|(apply AB.ret;rfl)|(apply Ai.guard;rfl;rfl)|(apply Ad.Ac;rfl)|(apply Ad.cond_true;rfl)|(apply Ad.cond_false;rfl)|(apply Ad.Aq;rfl)|(intro _;try (exfalso;omega)))
 all_goals try (exfalso;omega)
 all_goals try contradiction
 all_goals first
  |(rw [if_pos (by omega)];(refine Done.rt rfl rfl ⟨?_,rfl,rfl⟩;try rfl);done)
  |(rw [if_neg (by omega),if_pos (by omega)];(refine Done.rt rfl rfl ⟨?_,rfl,rfl⟩;try rfl);done)
  |(rw [if_neg (by omega),if_neg (by omega),if_pos (by omega)];(refine Done.rt rfl rfl ⟨?_,rfl,rfl⟩;try rfl);done)
  |(rw [if_neg (by omega),if_neg (by omega),if_neg (by omega)]
    refine Ah.normal ⟨j+1,⟨by omega,?_⟩,by omega,⟨by omega,?_,BI.nil⟩⟩
    ·first|rfl|(refine er ?_ hE;symm;(conv=>lhs;rw [Sj]);rw [if_pos hkl,if_neg (fun h=>h h1),if_neg (fun h=>by obtain ⟨i,h1,h2⟩:=hT.1 h;exact hok i h1 h2),if_neg (by omega),if_neg (by omega),if_neg (by omega)])
    ·exact C9)
end Go.Proofs.YtnjkoebfgcbbdaaGreatDoor
