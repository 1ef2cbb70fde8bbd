/-
  Texts of a proof, merged (RkH, RkI, OrF, RkJ, RkK, RkL, OrG, OrH, OrI, OrC). Conditions: in each statement.
-/
import Derived.Test.YtnjkoebfgcbbdaaGreatDoorKPi
set_option linter.unusedSimpArgs false
set_option linter.unusedVariables false
set_option linter.unusedSectionVars false
set_option maxRecDepth 100000
set_option maxHeartbeats 8000000
abbrev bl:=@Int.le_refl
abbrev bz:=@Int.emod_lt_of_pos
abbrev bB:=@Int.emod_nonneg
namespace Go.Proofs.YtnjkoebfgcbbdaaGreatDoor
open Go Go.Am Go.Vm
attribute [local irreducible] Aa Aj Ag Ad AL Ak Bd BL Bl Ai Vm.Done BD AO
theorem yR{r:H7}(d:DT r.name)(c:DT r.Kt)(b:pOk r.Eu)(f:-256≤r.first∧r.first≤256)(e:0<r.Fz.length∧r.Fz.length≤128)(a:okW r.Fz):CJ r=0:=by
 unfold CJ;rw[if_neg (fun h=>h.elim (fun h=>h d) (fun h=>h c)),if_neg (fun h=>h (VH.2 b)),if_neg (by omega),if_neg (by omega),if_neg (by omega)];exact if_pos a
theorem a4c:DT [79,112,101,110]:=by
 refine⟨by decide,by decide,by decide,fun i b a=>?_⟩;have:i=1∨i=2∨i=3:=by grind
 rcases this with rfl|rfl|rfl<;>exact .inl (by decide)
def d5y(f first:Int)(n:Nat):H7:=⟨[82,111,119],[79,112,101,110],⟨f,1⟩,first,List.replicate n 1⟩
def c8g:H7:=⟨[82,111,119],[79,112,101,110],⟨8,1⟩,24,List.replicate 12 0++List.replicate 61 1⟩
attribute [local irreducible] CJ Bf shz A8 YM d0v c9c c8k d0q
end Go.Proofs.YtnjkoebfgcbbdaaGreatDoor
namespace Go.Proofs.YtnjkoebfgcbbdaaGreatDoor
open Go Go.Am Go.Vm
attribute [local irreducible] Aa Aj Ag Ad AL Ak Bd BL Bl Ai Vm.Done BD AO
instance encStr:Enc (List UInt8):={ default:=[],enc:=fun s=>[.str (bs s)],size:=1,len:=fun _=>rfl }
structure GX where
 Kt:Nat
 Eu:Nat
 first:Int
 pipes:Nat
 Fz:List Nat
def GX.enc(x:GX):List FV:=[.int .u8 (x.Kt:Int),.int .u8 (x.Eu:Int),.int .i8 x.first,.int .u8 (x.pipes:Int),.int .u8 ((gi x.Fz 0:Nat):Int),.int .u8 ((gi x.Fz 1:Nat):Int),.int .u8 ((gi x.Fz 2:Nat):Int),.int .u8 ((gi x.Fz 3:Nat):Int),.int .u8 ((gi x.Fz 4:Nat):Int)]
structure GX.Ok(x:GX):Prop where
 Kt:x.Kt<256
 Eu:x.Eu<256
 first:-128≤x.first∧x.first≤127
 pipes:x.pipes<256
 Fz:∀i,gi x.Fz i<256
def U5:List (List UInt8):=[[79,112,101,110],[70,108,117,116,101],[82,101,101,100]]
def Jp(x:GX):Nat→List Int
 |0=>[]
 |k+1=>Jp x k++[((gi x.Fz (k%5):Nat):Int)]
theorem Gx(x:GX):∀k,(Jp x k).length=k
 |0=>rfl
 |k+1=>by simp[Jp,Gx x k]
def Wu(x:GX)(i:Int):H7:=⟨[82,UInt8.ofNat (48+i%10).toNat],gi U5 (x.Kt%3),gi SS (x.Eu%16),x.first,Jp x (1+x.pipes%25)⟩
theorem a5o(x:GX)(c:x.Ok)(i:Int)(s:0≤i∧i≤1000):Ak env 114 [.agg x.enc,.int .i64 i] (.p (.agg (Enc.enc (Wu x i)))):=by
 obtain⟨y,g,w,u,f⟩:=c;have e:=a3p x.Eu g;have a:x.Kt%3<3:=bc _ (by decide);refine Ak.enter (Af (by decide)) Tryz.func114 rfl (by kernel_rfl) (by simp[Tryz.ntmps114]) ?_
 repeat' (first|(refine Ag.Il 18 ?_;refine Ag.ghost (Aq.freeze 14 rfl rfl) ?_)|apply Ad.assoc|apply Ad.Bo|apply Ad.Ce|apply Ad.EG|apply Aj.nil|apply Ag.nil|apply Aj.one|(apply Ag.bar;decide +kernel)|apply Ag.quiet|(apply Aa.fn;rfl;rfl;exact e;intro _;rfl)|(apply Aa.Iw;rfl;rfl;rfl;rfl;rfl;omega)|(apply Aa.Ap (l:=U5) (i:=x.Kt%3);rfl;rfl;rfl;exact a;rfl)|(apply Aa.assign;rfl)|(apply Aa.move;rfl)|(apply Aa.MH;rfl;rfl;omega)|(apply Aa.yj;rfl;rfl;omega;omega)|(apply Aa.load;rfl;rfl)|(apply Aa.HY;rfl;rfl;rfl)|(apply Aa.box;rfl;trivial)|(apply Aa.alloc;rfl)|(apply Aa.Gl;rfl;rfl;rfl;trivial;rfl;rfl;exact Ba rfl;exact le_dec rfl)|(apply Aa.build;rfl;rfl;rfl;rfl;rfl)|(apply Aa.buildSlice;rfl;rfl;rfl;decide;rfl;rfl;rfl)|(apply Aa.YP;rfl;rfl;(first|omega|(simp only[List.length_take,List.length_drop,List.length_append,List.length_singleton,List.length_cons,List.length_nil]<;>omega)))|(apply Aa.Io;rfl;rfl;rfl;rfl;omega)|(apply Aa.NU;rfl;rfl;rfl;rfl;omega))
 refine Ad.ghost (Aq.Fg 4 5 3 rfl rfl) ?_;refine Ad.DR (fun k:Nat=>[(2,.ref 0 0),(4,.ref 1 0),(5,.ref 4 0),(6,.p (.int .i64 (k:Int)))]) (fun k=>[(5,.vec 3 (cells (Jp x k)) (Jp x k).length true),(4,.box 113 [.p (.str (bs [82,UInt8.ofNat (48+i%10).toNat])),.p (.str (bs (gi U5 (x.Kt%3)))),.p (.int .i64 (gi SS (x.Eu%16)).num),.p (.int .i64 (gi SS (x.Eu%16)).den),.p (.int .i64 x.first),.vec 5 (Jp x k).length 0 (Jp x k).length]),(1,.box 113 [.p (.str ⟨#[]⟩),.p (.str ⟨#[]⟩),.p (.int .i64 0),.p (.int .i64 0),.p (.int .i64 0),.p (.val (.slice none 0 0))]),(0,.box 226 (x.enc.map .p))]) 6 (fun k=>k≤1+x.pipes%25) (fun k=>1+x.pipes%25-k) 0 (by omega) (by omega) ⟨by omega,?_,?_⟩ ?_
 ·exact Du
 ·exact Ec
 intro k r;have q:=Gx x k;have o:=f (k%5);have b:Jp x (k+1)=Jp x k++[((gi x.Fz (k%5):Nat):Int)]:=rfl;have j:(Jp x (k+1)).length=(Jp x k).length+1:=by rw[b];simp
 have d:(x.enc.map PV.p)[4+((k:Int)%5).toNat*1]?=some (.p (.int .u8 ((gi x.Fz (k%5):Nat):Int))):=by
  have m:((k:Int)%5).toNat=k%5:=by omega
  rw[m];have:k%5<5:=bc _ (by decide);generalize k%5=n at this
  match n,this with
  |0,_=>rfl
  |1,_=>rfl
  |2,_=>rfl
  |3,_=>rfl
  |4,_=>rfl
 repeat' (first|(refine Ad.at 6 ?_;refine Ad.ghost (Aq.Dx 4 5 rfl rfl rfl) ?_;first|apply Ad.Bo|apply Ad.Ce)|(apply Aa.b1u;rfl;rfl;rfl;exact d)|(apply Aa.Vs;rfl;rfl;rfl;rfl;rfl;omega)|(apply Aa.Dn;rfl;rfl;rfl;rfl;rfl;rfl;rfl;rfl;(intro _ h;cases h);rfl;rfl;rfl;decide;decide;(first|omega|(simp only[List.length_take,List.length_drop,List.length_append,List.length_singleton,List.length_cons,List.length_nil]<;>omega)))|refine VU ?_|apply Ad.Bo|apply Ad.region|apply Ad.E5|(apply Aa.int;rfl;rfl;rfl)|(apply Aa.buildSlice;rfl;rfl;rfl;decide;rfl;rfl;rfl)|(apply Aa.Io;rfl;rfl;rfl;rfl;omega)|(apply Ad.Ac;rfl)|(intro _;try(exfalso;omega)))
 ·refine Ai.normal ⟨k+1,by omega,by omega,⟨by omega,?_,?_⟩⟩
  ·exact Du
  ·rw[j,b];exact Ec
 ·obtain rfl:k=1+x.pipes%25:=by omega
  refine Done.rt rfl rfl ⟨?_,rfl,rfl⟩;rfl
structure Pul where
 rank:Nat
 Eu:Nat
 kind:Nat
 at_:Nat
instance:Enc Pul:={ default:=⟨0,0,0,0⟩,enc:=fun x=>[.int .u8 (x.rank:Int),.int .u8 (x.Eu:Int),.int .u8 (x.kind:Int),.int .u8 (x.at_:Int)],size:=4,len:=fun _=>rfl }
structure Pul.Ok(x:Pul):Prop where
 rank:x.rank<256
 Eu:x.Eu<256
 kind:x.kind<256
 at_:x.at_<256
structure Brd where
 low:Nat
 keys:Nat
 FC:Bool
 stops:List Pul
instance:Enc Brd:={ default:=⟨0,0,false,[]⟩,enc:=fun x=>[.int .u8 (x.low:Int),.int .u8 (x.keys:Int),.bool x.FC,.lst 232 (cells x.stops) x.stops.length],size:=4,len:=fun _=>rfl }
structure Brd.Ok(x:Brd):Prop where
 low:x.low<256
 keys:x.keys<256
 stops:x.stops.length<9223372036854775808
 all:∀i,i<x.stops.length→(gi x.stops i).Ok
structure Lnk where
 WQ:Nat
 tgt:Nat
 shift:Int
 through:Bool
instance:Enc Lnk:={ default:=⟨0,0,0,false⟩,enc:=fun x=>[.int .u8 (x.WQ:Int),.int .u8 (x.tgt:Int),.int .i8 x.shift,.bool x.through],size:=4,len:=fun _=>rfl }
structure Lnk.Ok(x:Lnk):Prop where
 WQ:x.WQ<256
 tgt:x.tgt<256
 shift:-128≤x.shift∧x.shift≤127
instance c4g:Enc GX:={ default:=⟨0,0,0,0,[]⟩,enc:=GX.enc,size:=9,len:=fun _=>rfl }
structure OPl where
 ranks:List GX
 Ae:List Brd
 links:List Lnk
def OPl.enc(x:OPl):List FV:=[.lst 226 (cells x.ranks) x.ranks.length,.lst 211 (cells x.Ae) x.Ae.length,.lst 234 (cells x.links) x.links.length]
structure OPl.Ok(x:OPl):Prop where
 ranks:∀i,i<x.ranks.length→(gi x.ranks i).Ok
 Ae:∀i,i<x.Ae.length→(gi x.Ae i).Ok
 links:∀i,i<x.links.length→(gi x.links i).Ok
 nr:x.ranks.length<9223372036854775808
 nd:x.Ae.length<9223372036854775808
 nl:x.links.length<9223372036854775808
def Tf:List L8:=[⟨8,1⟩,⟨4,1⟩,⟨16,1⟩,⟨8,3⟩,⟨2,1⟩,⟨8,5⟩]
theorem zX(n:Nat)(b:n<256):Ak env 151 [.int .u8 (n:Int)] (.p (.agg (Enc.enc (gi Tf (n%6))))):=by
 refine Ak.enter (Af (by decide)) Tryz.func151 rfl (by kernel_rfl) (by simp[Tryz.ntmps151]) ?_;have a:n%6<6:=bc _ (by decide)
 repeat' (first|(refine Aj.Il 12 ?_;refine Aj.ghost (Aq.freeze 9 rfl rfl) ?_)|apply Ad.Bo|apply Ad.ret|apply Aj.nil|apply Aj.one|(apply Aa.Ap (l:=Tf) (i:=n%6);rfl;rfl;rfl;exact a;rfl)|(apply Aa.move;rfl)|(apply Aa.yj;rfl;rfl;omega;omega)|(apply Aa.load;rfl;rfl)|(apply Aa.alloc;rfl)|(apply Aa.Gl;rfl;rfl;rfl;trivial;rfl;rfl;exact Ba rfl;exact le_dec rfl)|(apply Aa.build;rfl;rfl;rfl;rfl;rfl)|(apply Aa.buildSlice;rfl;rfl;rfl;decide;rfl;rfl;rfl))
 all_goals(refine Done.rt rfl rfl ⟨?_,rfl,rfl⟩;try rfl)
theorem b2o:∀n,n<6→pOk (gi Tf n) :=by decide
theorem b1q:∀a,a<6→∀b,b<16→(A8 (gi Tf a) (gi SS b)).2=0∧-100≤(A8 (gi Tf a) (gi SS b)).1∧(A8 (gi Tf a) (gi SS b)).1≤100 :=by decide
structure a1x(rk:List H7):Prop where
 len:0<rk.length∧rk.length≤3
 ok:∀i,i<rk.length→CJ (gi rk i)=0∧∃b,b<16∧(gi rk i).Eu=gi SS b
attribute [local irreducible] CJ Bf A8
theorem b4m(e:List H7)(f k:Int)(x:Pul)(i:Nat)(J:a1x e)(O:0≤f∧f≤k∧k≤127)(W:x.Ok)(Y:i≤9) :
 ∃s:Stp,Ak env 115 [.lst 113 (cells e) e.length,.agg [.int .i64 f,.int .i64 k],.agg (Enc.enc x),.int .i64 (i:Int)] (.p (.agg (Enc.enc s)))∧s.name=O9 83 i∧Eb e f k s=0∧qK s∧∃a,a<6∧s.Eu=gi Tf a:=by
 obtain⟨M,B⟩:=J;obtain⟨x1,T,x3,x4⟩:=W;obtain⟨n,C⟩:∃n,n=x.rank%e.length:=⟨_,rfl⟩
 have o:n<e.length:=by rw[C];exact bc _ M.1
 obtain⟨m,I⟩:∃m,m=(n+1)%e.length:=⟨_,rfl⟩
 have z:m<e.length:=by rw[I];exact bc _ M.1
 have u:=zX x.Eu T;have w:x.Eu%6<6:=bc _ (by decide);have f6:=b2o _ w;obtain⟨-,b,hb,eb⟩:=B n o;obtain⟨-,c,N,ec⟩:=B m z;have s1:=b1q _ w b hb;have s2:=b1q _ w c N;rw[← eb] at s1;rw[← ec] at s2;generalize hF:gi Tf (x.Eu%6)=F at *;have y:=YI F (gi e n).Eu;have H:=YI F (gi e m).Eu;rw[s1.1] at y;rw[s2.1] at H;generalize (A8 F (gi e n).Eu).1=sh at *;generalize (A8 F (gi e m).Eu).1=so at *;have R:qY e f k=0:=a3k (fun i h=>(B i h).1) (by omega) O;have q:∀g:List Seg,(0<g.length∧g.length≤12)→Oi e.length f k g 0=0→Eb e f k ⟨O9 83 i,F,g⟩=0:=fun g S P=>by
  unfold Eb c1x;rw[if_neg (fun h=>h R),if_neg (fun h=>h (zA (by decide) (by omega))),if_neg (fun h=>h (VH.2 f6)),if_neg (by simp only;omega),if_neg (by simp only;omega)];exact P
 have sm:∀g:List Seg,g.length<1000000→(∀j,j<g.length→(gi g j).draws.length<1000000)→qK ⟨O9 83 i,F,g⟩:=fun g S P=>⟨by simp[O9],S,fun j r=>⟨P j r⟩⟩
 have A:XJ e.length ⟨n,sh⟩:=⟨⟨by simp only;omega,by simp only;omega⟩,⟨by simp only;omega,by simp only;omega⟩⟩
 have K:(n:Int)=(x.rank:Int)%e.length:=by rw[C];simp
 obtain⟨d,hd⟩:∃d:Nat,(d:Int)=(x.at_:Int)%(k-f+1):=⟨((x.at_:Int)%(k-f+1)).toNat,by have:=bB (x.at_:Int) (show k-f+1≠0 by omega);omega⟩
 have Z:(d:Int)≤k-f:=by have:=bz (x.at_:Int) (show 0<k-f+1 by omega);omega
 have X:x.kind%6<6:=bc _ (by decide);rw[I,C] at H z;rw[C] at y o;have L:(m:Int)=((x.rank:Int)%e.length+1)%e.length:=by rw[I,C];simp
 have hAt:f+(d:Int)=f+(x.at_:Int)%(k-f+1):=by omega
 rw[K] at A;have G:XJ e.length ⟨((x.rank:Int)%e.length+1)%e.length,so⟩:=by
  rw[← L];exact⟨⟨by simp only;omega,by simp only;rw[I];have:=bc (n+1) M.1;omega⟩,⟨by simp only;omega,by simp only;omega⟩⟩
 have E:XJ e.length ⟨(x.rank:Int)%e.length,sh-12⟩:=⟨A.rank,⟨by simp only;omega,by simp only;omega⟩⟩
 have Q:XJ e.length ⟨(x.rank:Int)%e.length,sh+7⟩:=⟨A.rank,⟨by simp only;omega,by simp only;omega⟩⟩
 by_cases k2:x.kind%6=2
 ·refine⟨⟨O9 83 i,F,[⟨f,k,[⟨(x.rank:Int)%e.length,sh⟩,⟨(x.rank:Int)%e.length,sh+7⟩]⟩]⟩,?_,rfl,?_,?_,_,w,hF.symm⟩
  ·refine Ak.enter (Af (by decide)) Tryz.func115 rfl (by kernel_rfl) (by simp[Tryz.ntmps115]) ?_
   repeat' (first|(refine Ad.at 5 ?_;refine Ad.ghost (Aq.freeze 13 rfl rfl) ?_;first|apply Ad.Bo|apply Ad.Ce)|(refine Ad.at 22 ?_;refine Ad.ghost (Aq.Dx 4 3 rfl rfl rfl) ?_;first|apply Ad.Bo|apply Ad.Ce)|(refine Aj.Il 88 ?_;refine Aj.ghost (Aq.freeze 87 rfl rfl) ?_)|apply Ad.assoc|apply Ad.Bo|apply Ad.Ce|apply Ad.region|apply Ad.EG|apply BL.normal|apply Bl.normal|apply Ad.ret|apply Aj.nil|apply Ag.nil|apply Aj.one|(apply Ag.bar;decide +kernel)|apply Ag.quiet|(apply Aa.fn;rfl;rfl;exact u;intro _;rfl)|(apply Aa.fn;rfl;rfl;exact y;intro _;rfl)|(apply Aa.Iw;rfl;rfl;rfl;rfl;rfl;omega)|(apply Aa.Ap (l:=e) (i:=x.rank%e.length);rfl;rfl;rfl;exact o;rfl)|(apply Aa.assign;rfl)|(apply Aa.move;rfl)|(apply Aa.MH;rfl;rfl;omega)|(apply Aa.tK;rfl;rfl;omega)|(apply Aa.yj;rfl;rfl;omega;omega)|(apply Aa.int;rfl;rfl;rfl)|(apply Aa.load;rfl;rfl)|(apply Aa.vJ;rfl;rfl)|(apply Aa.HY;rfl;rfl;rfl)|(apply Aa.ZV;rfl;rfl)|(apply Aa.box;rfl;trivial)|(apply Aa.alloc;rfl)|(apply Aa.Gl;rfl;rfl;rfl;trivial;rfl;rfl;exact Ba rfl;exact le_dec rfl)|(apply Aa.build;rfl;rfl;rfl;rfl;rfl)|(apply Aa.buildSlice;rfl;rfl;rfl;decide;rfl;rfl;rfl)|(apply Aa.YP;rfl;rfl;(first|omega|(simp only[List.length_take,List.length_drop,List.length_append,List.length_singleton,List.length_cons,List.length_nil]<;>omega)))|(apply Aa.extract;rfl;rfl)|(apply Aa.Io;rfl;rfl;rfl;rfl;omega)|(apply Aa.NU;rfl;rfl;rfl;rfl;omega)|(apply Ad.Au;rfl)|(intro _;try(exfalso;omega)))
   all_goals first|(exfalso;omega)|contradiction|(refine Done.rt rfl rfl ⟨?_,rfl,rfl⟩;rfl)
  ·exact q _ (by simp) (NC ⟨bl _,O.2.1,bl _⟩ (b0s A Q (fun h=>by have:=congrArg wX.shift h;simp only at this;omega)))
  ·refine sm _ (by simp) (fun j r=>?_)
   obtain rfl:j=0:=by simp at r;omega
   show 2<1000000;decide
 by_cases k5:x.kind%6=5
 ·refine⟨⟨O9 83 i,F,[⟨f+(x.at_:Int)%(k-f+1),k,[⟨(x.rank:Int)%e.length,sh⟩]⟩]⟩,?_,rfl,?_,?_,_,w,hF.symm⟩
  ·refine Ak.enter (Af (by decide)) Tryz.func115 rfl (by kernel_rfl) (by simp[Tryz.ntmps115]) ?_
   repeat' (first|(refine Ad.at 5 ?_;refine Ad.ghost (Aq.freeze 13 rfl rfl) ?_;first|apply Ad.Bo|apply Ad.Ce)|(refine Ad.at 22 ?_;refine Ad.ghost (Aq.Dx 4 3 rfl rfl rfl) ?_;first|apply Ad.Bo|apply Ad.Ce)|(apply Aa.fn;rfl;rfl;exact u;intro _;rfl)|(apply Aa.fn;rfl;rfl;exact y;intro _;rfl)|(apply Aa.Ap (l:=e) (i:=x.rank%e.length);rfl;rfl;rfl;exact o;rfl)|refine VU ?_|apply Ad.Bo|apply Ad.Ce|apply Ad.region|(apply Aa.Iw;rfl;rfl;rfl;rfl;rfl;omega)|(apply Aa.int;rfl;rfl;rfl)|(apply Aa.build;rfl;rfl;rfl;rfl;rfl)|(apply Aa.buildSlice;rfl;rfl;rfl;decide;rfl;rfl;rfl)|(apply Aa.YP;rfl;rfl;(first|omega|(simp only[List.length_take,List.length_drop,List.length_append,List.length_singleton,List.length_cons,List.length_nil]<;>omega)))|(apply Aa.Io;rfl;rfl;rfl;rfl;omega)|(apply Aa.NU;rfl;rfl;rfl;rfl;omega)|(apply Ad.Ac;rfl)|(apply Ad.Au;rfl)|(intro _;try(exfalso;omega)))
   all_goals first|(exfalso;omega)|contradiction|(refine Done.rt rfl rfl ⟨?_,rfl,rfl⟩;rfl)
  ·exact q _ (by simp) (NC ⟨by simp only;omega,by simp only;omega,bl _⟩ (KC A))
  ·refine sm _ (by simp) (fun j r=>?_)
   obtain rfl:j=0:=by simp at r;omega
   show 1<1000000;decide
 by_cases V:x.kind%6<2
 ·refine⟨⟨O9 83 i,F,[⟨f,k,[⟨(x.rank:Int)%e.length,sh⟩]⟩]⟩,?_,rfl,?_,?_,_,w,hF.symm⟩
  ·refine Ak.enter (Af (by decide)) Tryz.func115 rfl (by kernel_rfl) (by simp[Tryz.ntmps115]) ?_
   repeat' (first|(refine Ad.at 5 ?_;refine Ad.ghost (Aq.freeze 13 rfl rfl) ?_;first|apply Ad.Bo|apply Ad.Ce)|(refine Ad.at 22 ?_;refine Ad.ghost (Aq.Dx 4 3 rfl rfl rfl) ?_;first|apply Ad.Bo|apply Ad.Ce)|(apply Aa.fn;rfl;rfl;exact u;intro _;rfl)|(apply Aa.fn;rfl;rfl;exact y;intro _;rfl)|(apply Aa.Ap (l:=e) (i:=x.rank%e.length);rfl;rfl;rfl;exact o;rfl)|refine VU ?_|apply Ad.Bo|apply Ad.Ce|apply Ad.region|(apply Aa.Iw;rfl;rfl;rfl;rfl;rfl;omega)|(apply Aa.int;rfl;rfl;rfl)|(apply Aa.build;rfl;rfl;rfl;rfl;rfl)|(apply Aa.buildSlice;rfl;rfl;rfl;decide;rfl;rfl;rfl)|(apply Aa.YP;rfl;rfl;(first|omega|(simp only[List.length_take,List.length_drop,List.length_append,List.length_singleton,List.length_cons,List.length_nil]<;>omega)))|(apply Aa.Io;rfl;rfl;rfl;rfl;omega)|(apply Aa.NU;rfl;rfl;rfl;rfl;omega)|(apply Ad.Ac;rfl)|(apply Ad.Au;rfl)|(intro _;try(exfalso;omega)))
   all_goals first|(exfalso;omega)|contradiction|(refine Done.rt rfl rfl ⟨?_,rfl,rfl⟩;rfl)
  ·exact q _ (by simp) (NC ⟨bl _,O.2.1,bl _⟩ (KC A))
  ·refine sm _ (by simp) (fun j r=>?_)
   obtain rfl:j=0:=by simp at r;omega
   show 1<1000000;decide
 by_cases hd0:d=0
 ·by_cases U:x.kind%6=3
  ·refine⟨⟨O9 83 i,F,[⟨f+(x.at_:Int)%(k-f+1),k,[⟨((x.rank:Int)%e.length+1)%e.length,so⟩]⟩]⟩,?_,rfl,?_,?_,_,w,hF.symm⟩
   ·refine Ak.enter (Af (by decide)) Tryz.func115 rfl (by kernel_rfl) (by simp[Tryz.ntmps115]) ?_
    repeat' (first|(refine Ad.at 17 ?_;refine Ad.ghost (Aq.trans (Aq.freeze 15 rfl rfl) (Aq.Fg 4 3 273 rfl rfl)) ?_;first|apply Ad.Bo|apply Ad.Ce)|(refine Ad.at 5 ?_;refine Ad.ghost (Aq.freeze 13 rfl rfl) ?_;first|apply Ad.Bo|apply Ad.Ce)|(refine Ad.at 22 ?_;refine Ad.ghost (Aq.Dx 4 3 rfl rfl rfl) ?_;first|apply Ad.Bo|apply Ad.Ce)|(apply Aa.Dn (l:=([]:List Seg)) (a:=⟨f+(x.at_:Int)%(k-f+1),k,[⟨((x.rank:Int)%e.length+1)%e.length,so⟩]⟩);rfl;rfl;rfl;rfl;rfl;rfl;rfl;rfl;(intro _ h;cases h);rfl;rfl;rfl;decide;decide;(first|omega|(simp only[List.length_nil,List.length_cons]<;>omega)))|(apply Aa.fn;rfl;rfl;exact u;intro _;rfl)|(apply Aa.fn;rfl;rfl;exact y;intro _;rfl)|(apply Aa.fn;rfl;rfl;exact H;intro _;rfl)|(apply Aa.Ap (l:=e) (i:=x.rank%e.length);rfl;rfl;rfl;exact o;rfl)|(apply Aa.Ap (l:=e) (i:=(x.rank%e.length+1)%e.length);rfl;rfl;rfl;exact z;rfl)|refine VU ?_|apply Ad.Bo|apply Ad.Ce|apply Ad.region|(apply Aa.Iw;rfl;rfl;rfl;rfl;rfl;omega)|(apply Aa.int;rfl;rfl;rfl)|(apply Aa.build;rfl;rfl;rfl;rfl;rfl)|(apply Aa.buildSlice;rfl;rfl;rfl;decide;rfl;rfl;rfl)|(apply Aa.YP;rfl;rfl;(first|omega|(simp only[List.length_take,List.length_drop,List.length_append,List.length_singleton,List.length_cons,List.length_nil]<;>omega)))|(apply Aa.Io;rfl;rfl;rfl;rfl;omega)|(apply Aa.NU;rfl;rfl;rfl;rfl;omega)|(apply Ad.Ac;rfl)|(apply Ad.Au;rfl)|(intro _;try(exfalso;omega)))
    all_goals first|(exfalso;omega)|contradiction|(refine Done.rt rfl rfl ⟨?_,rfl,rfl⟩;rfl)
   ·exact q _ (by simp) (NC ⟨by simp only;omega,by simp only;omega,bl _⟩ (KC G))
   ·refine sm _ (by simp) (fun j r=>?_)
    obtain rfl:j=0:=by simp at r;omega
    show 1<1000000;decide
  ·refine⟨⟨O9 83 i,F,[⟨f+(x.at_:Int)%(k-f+1),k,[⟨(x.rank:Int)%e.length,sh-12⟩]⟩]⟩,?_,rfl,?_,?_,_,w,hF.symm⟩
   ·refine Ak.enter (Af (by decide)) Tryz.func115 rfl (by kernel_rfl) (by simp[Tryz.ntmps115]) ?_
    repeat' (first|(refine Ad.at 17 ?_;refine Ad.ghost (Aq.trans (Aq.freeze 15 rfl rfl) (Aq.Fg 4 3 273 rfl rfl)) ?_;first|apply Ad.Bo|apply Ad.Ce)|(refine Ad.at 5 ?_;refine Ad.ghost (Aq.freeze 13 rfl rfl) ?_;first|apply Ad.Bo|apply Ad.Ce)|(refine Ad.at 22 ?_;refine Ad.ghost (Aq.Dx 4 3 rfl rfl rfl) ?_;first|apply Ad.Bo|apply Ad.Ce)|(apply Aa.Dn (l:=([]:List Seg)) (a:=⟨f+(x.at_:Int)%(k-f+1),k,[⟨(x.rank:Int)%e.length,sh-12⟩]⟩);rfl;rfl;rfl;rfl;rfl;rfl;rfl;rfl;(intro _ h;cases h);rfl;rfl;rfl;decide;decide;(first|omega|(simp only[List.length_nil,List.length_cons]<;>omega)))|(apply Aa.fn;rfl;rfl;exact u;intro _;rfl)|(apply Aa.fn;rfl;rfl;exact y;intro _;rfl)|(apply Aa.Ap (l:=e) (i:=x.rank%e.length);rfl;rfl;rfl;exact o;rfl)|refine VU ?_|apply Ad.Bo|apply Ad.Ce|apply Ad.region|(apply Aa.Iw;rfl;rfl;rfl;rfl;rfl;omega)|(apply Aa.int;rfl;rfl;rfl)|(apply Aa.build;rfl;rfl;rfl;rfl;rfl)|(apply Aa.buildSlice;rfl;rfl;rfl;decide;rfl;rfl;rfl)|(apply Aa.YP;rfl;rfl;(first|omega|(simp only[List.length_take,List.length_drop,List.length_append,List.length_singleton,List.length_cons,List.length_nil]<;>omega)))|(apply Aa.Io;rfl;rfl;rfl;rfl;omega)|(apply Aa.NU;rfl;rfl;rfl;rfl;omega)|(apply Ad.Ac;rfl)|(apply Ad.Au;rfl)|(intro _;try(exfalso;omega)))
    all_goals first|(exfalso;omega)|contradiction|(refine Done.rt rfl rfl ⟨?_,rfl,rfl⟩;rfl)
   ·exact q _ (by simp) (NC ⟨by simp only;omega,by simp only;omega,bl _⟩ (KC E))
   ·refine sm _ (by simp) (fun j r=>?_)
    obtain rfl:j=0:=by simp at r;omega
    show 1<1000000;decide
 ·by_cases U:x.kind%6=3
  ·refine⟨⟨O9 83 i,F,[⟨f,f+(x.at_:Int)%(k-f+1)-1,[⟨(x.rank:Int)%e.length,sh⟩]⟩,⟨f+(x.at_:Int)%(k-f+1),k,[⟨((x.rank:Int)%e.length+1)%e.length,so⟩]⟩]⟩,?_,rfl,?_,?_,_,w,hF.symm⟩
   ·refine Ak.enter (Af (by decide)) Tryz.func115 rfl (by kernel_rfl) (by simp[Tryz.ntmps115]) ?_
    repeat' (first|(refine Ad.at 17 ?_;refine Ad.ghost (Aq.trans (Aq.freeze 15 rfl rfl) (Aq.Fg 4 3 273 rfl rfl)) ?_;first|apply Ad.Bo|apply Ad.Ce)|(refine Ad.at 5 ?_;refine Ad.ghost (Aq.freeze 13 rfl rfl) ?_;first|apply Ad.Bo|apply Ad.Ce)|(refine Ad.at 22 ?_;refine Ad.ghost (Aq.Dx 4 3 rfl rfl rfl) ?_;first|apply Ad.Bo|apply Ad.Ce)|(apply Aa.Dn (l:=([]:List Seg)) (a:=⟨f,f+(x.at_:Int)%(k-f+1)-1,[⟨(x.rank:Int)%e.length,sh⟩]⟩);rfl;rfl;rfl;rfl;rfl;rfl;rfl;rfl;(intro _ h;cases h);rfl;rfl;rfl;decide;decide;(first|omega|(simp only[List.length_nil,List.length_cons]<;>omega)))|(apply Aa.Dn (l:=([⟨f,f+(x.at_:Int)%(k-f+1)-1,[⟨(x.rank:Int)%e.length,sh⟩]⟩]:List Seg)) (a:=⟨f+(x.at_:Int)%(k-f+1),k,[⟨((x.rank:Int)%e.length+1)%e.length,so⟩]⟩);rfl;rfl;rfl;rfl;rfl;rfl;rfl;rfl;(intro _ h;cases h);rfl;rfl;rfl;decide;decide;(first|omega|(simp only[List.length_nil,List.length_cons]<;>omega)))|(apply Aa.fn;rfl;rfl;exact u;intro _;rfl)|(apply Aa.fn;rfl;rfl;exact y;intro _;rfl)|(apply Aa.fn;rfl;rfl;exact H;intro _;rfl)|(apply Aa.Ap (l:=e) (i:=x.rank%e.length);rfl;rfl;rfl;exact o;rfl)|(apply Aa.Ap (l:=e) (i:=(x.rank%e.length+1)%e.length);rfl;rfl;rfl;exact z;rfl)|refine VU ?_|apply Ad.Bo|apply Ad.Ce|apply Ad.region|(apply Aa.Iw;rfl;rfl;rfl;rfl;rfl;omega)|(apply Aa.int;rfl;rfl;rfl)|(apply Aa.build;rfl;rfl;rfl;rfl;rfl)|(apply Aa.buildSlice;rfl;rfl;rfl;decide;rfl;rfl;rfl)|(apply Aa.YP;rfl;rfl;(first|omega|(simp only[List.length_take,List.length_drop,List.length_append,List.length_singleton,List.length_cons,List.length_nil]<;>omega)))|(apply Aa.Io;rfl;rfl;rfl;rfl;omega)|(apply Aa.NU;rfl;rfl;rfl;rfl;omega)|(apply Ad.Ac;rfl)|(apply Ad.Au;rfl)|(intro _;try(exfalso;omega)))
    all_goals first|(exfalso;omega)|contradiction|(refine Done.rt rfl rfl ⟨?_,rfl,rfl⟩;rfl)
   ·exact q _ (by simp) (kH ⟨bl _,by simp only;omega,by simp only;omega,by simp only;omega,bl _⟩ (KC A) (KC G))
   ·refine sm _ (by simp) (fun j r=>?_)
    have:j=0∨j=1:=by simp at r;omega
    rcases this with rfl|rfl
    ·show 1<1000000
     decide
    ·show 1<1000000
     decide
  ·refine⟨⟨O9 83 i,F,[⟨f,f+(x.at_:Int)%(k-f+1)-1,[⟨(x.rank:Int)%e.length,sh⟩]⟩,⟨f+(x.at_:Int)%(k-f+1),k,[⟨(x.rank:Int)%e.length,sh-12⟩]⟩]⟩,?_,rfl,?_,?_,_,w,hF.symm⟩
   ·refine Ak.enter (Af (by decide)) Tryz.func115 rfl (by kernel_rfl) (by simp[Tryz.ntmps115]) ?_
    repeat' (first|(refine Ad.at 17 ?_;refine Ad.ghost (Aq.trans (Aq.freeze 15 rfl rfl) (Aq.Fg 4 3 273 rfl rfl)) ?_;first|apply Ad.Bo|apply Ad.Ce)|(refine Ad.at 5 ?_;refine Ad.ghost (Aq.freeze 13 rfl rfl) ?_;first|apply Ad.Bo|apply Ad.Ce)|(refine Ad.at 22 ?_;refine Ad.ghost (Aq.Dx 4 3 rfl rfl rfl) ?_;first|apply Ad.Bo|apply Ad.Ce)|(apply Aa.Dn (l:=([]:List Seg)) (a:=⟨f,f+(x.at_:Int)%(k-f+1)-1,[⟨(x.rank:Int)%e.length,sh⟩]⟩);rfl;rfl;rfl;rfl;rfl;rfl;rfl;rfl;(intro _ h;cases h);rfl;rfl;rfl;decide;decide;(first|omega|(simp only[List.length_nil,List.length_cons]<;>omega)))|(apply Aa.Dn (l:=([⟨f,f+(x.at_:Int)%(k-f+1)-1,[⟨(x.rank:Int)%e.length,sh⟩]⟩]:List Seg)) (a:=⟨f+(x.at_:Int)%(k-f+1),k,[⟨(x.rank:Int)%e.length,sh-12⟩]⟩);rfl;rfl;rfl;rfl;rfl;rfl;rfl;rfl;(intro _ h;cases h);rfl;rfl;rfl;decide;decide;(first|omega|(simp only[List.length_nil,List.length_cons]<;>omega)))|(apply Aa.fn;rfl;rfl;exact u;intro _;rfl)|(apply Aa.fn;rfl;rfl;exact y;intro _;rfl)|(apply Aa.Ap (l:=e) (i:=x.rank%e.length);rfl;rfl;rfl;exact o;rfl)|refine VU ?_|apply Ad.Bo|apply Ad.Ce|apply Ad.region|(apply Aa.Iw;rfl;rfl;rfl;rfl;rfl;omega)|(apply Aa.int;rfl;rfl;rfl)|(apply Aa.build;rfl;rfl;rfl;rfl;rfl)|(apply Aa.buildSlice;rfl;rfl;rfl;decide;rfl;rfl;rfl)|(apply Aa.YP;rfl;rfl;(first|omega|(simp only[List.length_take,List.length_drop,List.length_append,List.length_singleton,List.length_cons,List.length_nil]<;>omega)))|(apply Aa.Io;rfl;rfl;rfl;rfl;omega)|(apply Aa.NU;rfl;rfl;rfl;rfl;omega)|(apply Ad.Ac;rfl)|(apply Ad.Au;rfl)|(intro _;try(exfalso;omega)))
    all_goals first|(exfalso;omega)|contradiction|(refine Done.rt rfl rfl ⟨?_,rfl,rfl⟩;rfl)
   ·exact q _ (by simp) (kH ⟨bl _,by simp only;omega,by simp only;omega,by simp only;omega,bl _⟩ (KC A) (KC E))
   ·refine sm _ (by simp) (fun j r=>?_)
    have:j=0∨j=1:=by simp at r;omega
    rcases this with rfl|rfl
    ·show 1<1000000
     decide
    ·show 1<1000000
     decide
end Go.Proofs.YtnjkoebfgcbbdaaGreatDoor
namespace Go.Proofs.YtnjkoebfgcbbdaaGreatDoor
open Go Go.Am Go.Vm
attribute [local irreducible] Aa Aj Ag Ad AL Ak Bd BL Bl Ai Vm.Done BD AO
noncomputable instance (a b:L8):Decidable (a=b):=Classical.propDecidable _
noncomputable instance (a b:H7):Decidable (a=b):=Classical.propDecidable _
def lnC(i c:Nat):Prop:=wQ c∨(i≠0∧(c=95∨(48≤c∧c≤57)))
def c5r(r:H7):Prop:=(r.Fz.length≤30∨r.Fz.length=129)∧r.name.length≤40∧r.Kt.length≤40
instance (r:H7):Decidable (c5r r):=by unfold c5r;infer_instance
attribute [local irreducible] CJ Bf shz A8 YM
noncomputable def d3i(r:H7)(f p:Int):FV×Int:=if YM r f≠0 then(LP,YM r f) else if p<1∨p>r.Fz.length-f then(LP,3) else b6o r (r.first+f) ((r.Fz.drop f.toNat).take ((f+p).toNat-f.toNat))
noncomputable def d4x(a b:H7):FV×Int:=if CJ a≠0 then(LP,CJ a) else if CJ b≠0 then(LP,CJ b) else if¬ (a.Kt=b.Kt∧a.Eu=b.Eu) then(LP,14) else if b.first≠a.first+a.Fz.length then(LP,6) else b6o a a.first (a.Fz++b.Fz)
theorem a9d:∀n,n<3→DT (gi U5 n)
 |0,_=>a4c
 |1,_=>by
  refine⟨by decide,by decide,by decide,fun i b a=>?_⟩;have:i=1∨i=2∨i=3∨i=4:=by simp[U5,gi] at a;omega
  rcases this with rfl|rfl|rfl|rfl<;>exact .inl (by decide)
 |2,_=>by
  refine⟨by decide,by decide,by decide,fun i b a=>?_⟩;have:i=1∨i=2∨i=3:=by simp[U5,gi] at a;omega
  rcases this with rfl|rfl|rfl<;>exact .inl (by decide)
theorem b4i:∀n,n<16→pOk (gi SS n) :=by decide
theorem wB(x:GX):∀k i,i<k→gi (Jp x k) i=((gi x.Fz (i%5):Nat):Int)
 |k+1,i,h=>by
  rcases aq i k with h1|h1
  ·have:gi (Jp x (k+1)) i=gi (Jp x k) i:=by simp[Jp,gi,List.getElem?_append_left (show i<(Jp x k).length by rw[Gx];omega)]
   rw[this];exact wB x k i h1
  ·obtain rfl:i=k:=by omega
   simp[Jp,gi,List.getElem?_append_right (show(Jp x i).length≤i by rw[Gx];simp),Gx]
theorem c0x(x:GX)(c:x.Ok)(i:Int)(g:0≤i):CJ (Wu x i)=0:=by
 obtain⟨m,l,k,h,d⟩:=c;refine yR ⟨by simp[Wu],by simp[Wu],(show wQ (82:UInt8).toNat by decide),fun j f b=>?_⟩ (a9d _ (bc _ (by decide))) (b4i _ (bc _ (by decide))) ⟨by simp only[Wu];omega,by simp only[Wu];omega⟩ ⟨by simp only[Wu,Gx];omega,by simp only[Wu,Gx];omega⟩ (fun j a=>?_)
 ·obtain rfl:j=1:=by simp[Wu] at b;omega
  have e:(gi (Wu x i).name 1).toNat=(48+i%10).toNat:=by
   show(UInt8.ofNat (48+i%10).toNat).toNat=_;rw[UInt8.toNat_ofNat'];omega
  right;omega
 ·simp only[Wu,Gx] at a ⊢
  rw[wB x _ j a];have:=d (j%5);unfold mG;omega
theorem b7v{α:Type}[Inhabited α]{l:List α}{P:α→Prop}(h:∀a∈l,P a){n:Nat}(b:n<l.length):P (gi l n):=by
 simp only[gi,List.getElem?_eq_getElem b,Option.getD_some];grind
theorem b5j(x:GX)(i:Int):c8w (Wu x i):=by
 refine⟨by simp[Wu],?_,by simp only[Wu,Gx];omega⟩;exact cx (b7v (P:=fun l=>l.length≤5) (by decide) (show x.Kt%3<U5.length from bc _ (by decide))) (by decide)
theorem a8y(x:GX)(i:Int):(Wu x i).Fz.length≤25:=by simp only[Wu,Gx];omega
def d1i:H7:=⟨[],[],⟨0,0⟩,0,[]⟩
end Go.Proofs.YtnjkoebfgcbbdaaGreatDoor
namespace Go.Proofs.YtnjkoebfgcbbdaaGreatDoor
open Go Go.Am Go.Vm
attribute [local irreducible] Aa Aj Ag Ad AL Ak Bd BL Bl Ai Vm.Done BD AO
def dA(x:OPl):Prop:=(1≤x.ranks.length∧x.ranks.length≤3)∧(1≤x.Ae.length∧x.Ae.length≤3)∧x.links.length≤3∧∀i,i<x.Ae.length→(gi x.Ae i).stops.length≤3
noncomputable instance (x:OPl):Decidable (dA x):=Classical.propDecidable _
theorem a6g(x:OPl)(c:x.Ok):Ak env 46 [.agg x.enc] (.p (.bool (decide (dA x)))):=by
 have b1:=c.nr;have b2:=c.nd;have b3:=c.nl;refine Ak.enter (Af (by decide)) Tryz.func46 rfl (by kernel_rfl) (by simp[Tryz.ntmps46]) ?_;by_cases d:(1≤x.ranks.length∧x.ranks.length≤3)∧(1≤x.Ae.length∧x.Ae.length≤3)∧x.links.length≤3
 case neg =>
  rw[decide_eq_false (fun h=>d ⟨h.1,h.2.1,h.2.2.1⟩)]
  repeat' (first|refine JD ?_|(apply Aj.guard;rfl;rfl)|(apply Ad.AV;rfl)|(apply Ad.Ac;rfl)|(intro _;try(exfalso;omega)))
  all_goals first|(exfalso;omega)|(refine Done.rt rfl rfl ⟨?_,rfl,rfl⟩;try rfl)
 repeat' (first|refine JD ?_|(apply Aj.guard;rfl;rfl)|(apply Ad.Ac;rfl)|(intro _;try(exfalso;omega)))
 all_goals try(exfalso;omega)
 refine Ad.DR (fun k:Nat=>[(1,.ref 0 0),(3,.p (.int .i64 (k:Int)))]) (fun _=>[(0,.box 54 (x.enc.map .p))]) 1 (fun k=>k≤x.Ae.length∧∀i,i<k→(gi x.Ae i).stops.length≤3) (fun k=>x.Ae.length-k) 0 (by omega) ⟨by omega,fun i e=>by omega⟩ ⟨by omega,?_,?_⟩ ?_
 ·exact Du
 ·exact Ec
 rintro k ⟨j,a⟩;by_cases b:k<x.Ae.length
 ·have g:=(c.Ae k b).stops
  by_cases f:(gi x.Ae k).stops.length≤3
  ·repeat' (first|(apply Aa.Ap;rfl;rfl;rfl;omega;rfl)|refine JD ?_|(apply Ad.Ac;rfl)|(apply Ad.Au;rfl)|(intro _;try(exfalso;omega)))
   all_goals try(exfalso;omega)
   refine Ai.normal ⟨k+1,⟨by omega,fun i e=>?_⟩,by omega,⟨by omega,?_,?_⟩⟩
   ·rcases aq i k with h|h
    ·exact a i h
    ·obtain rfl:i=k:=by omega
     exact f
   ·exact Du
   ·exact Ec
  ·rw[decide_eq_false (fun h=>f (h.2.2.2 k b))]
   repeat' (first|(apply Aa.Ap;rfl;rfl;rfl;omega;rfl)|refine JD ?_|(apply Ad.Ac;rfl)|(apply Ad.Au;rfl)|(intro _;try(exfalso;omega)))
   all_goals first|(exfalso;omega)|(refine Done.rt rfl rfl ⟨?_,rfl,rfl⟩;try rfl)
 ·rw[decide_eq_true (show dA x from⟨d.1,d.2.1,d.2.2,fun i e=>a i (by omega)⟩)]
  repeat' (first|refine JD ?_|(apply Ad.Ac;rfl)|(intro _;try(exfalso;omega)))
  all_goals first|(exfalso;omega)|(refine Done.rt rfl rfl ⟨?_,rfl,rfl⟩;try rfl)
def b2z(rk:List H7)(lo hi:Int)(x:Pul)(i:Nat)(s:Stp):Prop :=
 Ak env 115 [.lst 113 (cells rk) rk.length,.agg [.int .i64 lo,.int .i64 hi],.agg (Enc.enc x),.int .i64 (i:Int)] (.p (.agg (Enc.enc s)))∧s.name=O9 83 i∧Eb rk lo hi s=0∧qK s∧∃a,a<6∧s.Eu=gi Tf a
noncomputable def UU(rk:List H7)(lo hi:Int)(x:Pul)(i:Nat):Stp:=Classical.epsilon (h:=⟨default⟩) (b2z rk lo hi x i)
theorem ZL(c:List H7)(a b:Int)(x:Pul)(i:Nat)(d:a1x c)(g:0≤a∧a≤b∧b≤127)(f:x.Ok)(e:i≤9):b2z c a b x i (UU c a b x i) :=
 Classical.epsilon_spec (b4m c a b x i d g f e)
def ES(l:List GX):Nat→List H7
 |0=>[]
 |k+1=>ES l k++[Wu (gi l k) (k:Int)]
noncomputable def G6(rk:List H7)(lo hi:Int)(l:List Pul):Nat→List Stp
 |0=>[]
 |k+1=>G6 rk lo hi l k++[UU rk lo hi (gi l k) k]
def Fa(b:Brd):Int:=36+(b.low:Int)%12
def FM(b:Brd):Int:=Fa b+(b.keys:Int)%9
noncomputable def uM(rk:List H7)(b:Brd)(k:Nat):og:=⟨O9 68 (k:Int),b.FC,Fa b,FM b,G6 rk (Fa b) (FM b) b.stops b.stops.length⟩
noncomputable def Hy(rk:List H7)(l:List Brd):Nat→List og
 |0=>[]
 |k+1=>Hy rk l k++[uM rk (gi l k) k]
def Y0(n:Nat)(c:Lnk)(k:Nat):qc:=⟨O9 67 (k:Int),(c.WQ:Int)%n,(c.tgt:Int)%n,if(c.WQ:Int)%n=(c.tgt:Int)%n∧c.shift.tmod 25=0 then 12 else c.shift.tmod 25,c.through⟩
def FN(n:Nat)(l:List Lnk):Nat→List qc
 |0=>[]
 |k+1=>FN n l k++[Y0 n (gi l k) k]
theorem JW(l:List GX):∀k,(ES l k).length=k
 |0=>rfl
 |k+1=>by simp[ES,JW l k]
theorem IK(a:List H7)(b c:Int)(l:List Pul):∀k,(G6 a b c l k).length=k
 |0=>rfl
 |k+1=>by simp[G6,IK a b c l k]
theorem Oo(a:List H7)(l:List Brd):∀k,(Hy a l k).length=k
 |0=>rfl
 |k+1=>by simp[Hy,Oo a l k]
theorem RJ(n:Nat)(l:List Lnk):∀k,(FN n l k).length=k
 |0=>rfl
 |k+1=>by simp[FN,RJ n l k]
noncomputable def eF(x:OPl):FQ:=⟨[79,114,103,97,110],ES x.ranks x.ranks.length,Hy (ES x.ranks x.ranks.length) x.Ae x.Ae.length,FN x.Ae.length x.links x.links.length⟩
theorem Iz{α:Type}[Inhabited α]{l:List α}{a:α}{i:Nat}:gi (l++[a]) i=if i<l.length then gi l i else if i=l.length then a else default:=by
 by_cases h:i<l.length
 ·rw[if_pos h];simp[gi,List.getElem?_append_left h]
 ·rw[if_neg h]
  by_cases b:i=l.length
  ·rw[if_pos b,b];simp[gi]
  ·rw[if_neg b];simp[gi,List.getElem?_append_right (show l.length≤i by omega),show¬ i-l.length=0 by omega]
theorem WU(l:List GX):∀k i,i<k→gi (ES l k) i=Wu (gi l i) (i:Int)
 |k+1,i,h=>by
  simp only[ES,Iz,JW];by_cases a:i<k
  ·rw[if_pos a];exact WU l k i a
  grind
theorem jR{l:List GX}(h:∀i,i<l.length→(gi l i).Ok)(b:0<l.length∧l.length≤3):a1x (ES l l.length):=by
 refine⟨by rw[JW];omega,fun i a=>?_⟩;rw[JW] at a;rw[WU l _ i a];exact⟨c0x _ (h i a) _ (by omega),(gi l i).Eu%16,bc _ (by decide),rfl⟩
attribute [local irreducible] Wu UU
def d3o(a b c:PV):Vm.HB:=.box 27 [.p (.str (bs [79,114,103,97,110])),a,b,c]
def d4z:Vm.HB:=.box 27 [.p (.str ⟨#[]⟩),.p (.val (.slice none 0 0)),.p (.val (.slice none 0 0)),.p (.val (.slice none 0 0))]
theorem qw(x:OPl)(e:x.Ok)(J:dA x):Ak env 70 [.agg x.enc] (.p (.agg (Enc.enc (eF x)))):=by
 obtain⟨I,H,G,m⟩:=J;have K:=jR e.ranks (by omega);refine Ak.enter (Af (by decide)) Tryz.func70 rfl (by kernel_rfl) (by simp[Tryz.ntmps70]) ?_
 repeat' (first|refine go2 ?_|(apply Aa.build;rfl;rfl;rfl;rfl;rfl))
 refine Ad.ghost (Aq.Fg 2 1 113 rfl rfl) ?_;refine Ad.DR (fun k:Nat=>[(1,.ref 0 0),(2,.ref 1 0),(3,.ref 2 0),(4,.p (.int .i64 (k:Int)))]) (fun k=>[(3,.vec 113 (cells (ES x.ranks k)) (ES x.ranks k).length true),(2,.box 27 [.p (.str (bs [79,114,103,97,110])),.vec 3 (ES x.ranks k).length 0 (ES x.ranks k).length,.p (.val (.slice none 0 0)),.p (.val (.slice none 0 0))]),(1,.box 27 [.p (.str ⟨#[]⟩),.p (.val (.slice none 0 0)),.p (.val (.slice none 0 0)),.p (.val (.slice none 0 0))]),(0,.box 54 (x.enc.map .p))]) 4 (fun k=>k≤x.ranks.length) (fun k=>x.ranks.length-k) 0 (by omega) (by omega) ⟨by omega,?_,?_⟩ ?_
 ·exact Du
 ·exact Ec
 intro k g;have f:=JW x.ranks k;have c:ES x.ranks (k+1)=ES x.ranks k++[Wu (gi x.ranks k) (k:Int)]:=rfl;have d:(ES x.ranks (k+1)).length=(ES x.ranks k).length+1:=by rw[c];simp
 by_cases b:k<x.ranks.length
 ·have F:=a5o (gi x.ranks k) (e.ranks k b) k ⟨by omega,by omega⟩
  repeat' (first|(apply Aa.fn;rfl;rfl;exact F;intro _;rfl)|(apply Aa.Dn (a:=Wu (gi x.ranks k) (k:Int));rfl;rfl;rfl;rfl;rfl;rfl;rfl;rfl;(intro _ h;cases h);rfl;rfl;rfl;decide;decide;(first|omega|(simp only[List.length_take,List.length_drop,List.length_append,List.length_singleton,List.length_cons,List.length_nil]<;>omega)))|(apply Aa.Ap;rfl;rfl;rfl;omega;rfl)|refine Jq ?_|(apply Aa.int;rfl;rfl;rfl)|(apply Aa.buildSlice;rfl;rfl;rfl;decide;rfl;rfl;rfl)|(apply Ad.Ac;rfl)|(intro _;try(exfalso;omega)))
  all_goals try(exfalso;omega)
  refine Ai.normal ⟨k+1,by omega,by omega,⟨by omega,?_,?_⟩⟩
  ·exact Du
  ·rw[d,c];exact Ec
 obtain rfl:k=x.ranks.length:=by omega
 clear c d f b g;have o:eF x=⟨[79,114,103,97,110],ES x.ranks x.ranks.length,Hy (ES x.ranks x.ranks.length) x.Ae x.Ae.length,FN x.Ae.length x.links x.links.length⟩:=rfl;rw[o];generalize ES x.ranks x.ranks.length=R at *;clear o
 repeat' (first|(refine Ad.at 6 ?_;refine Ad.ghost (Aq.trans (Aq.Dx 2 1 rfl rfl rfl) (Aq.trans (Aq.Fg 2 2 118 rfl rfl) (Aq.Fg 2 3 236 rfl rfl))) ?_;first|apply Ad.Bo|apply Ad.Ce)|refine go0 ?_|apply Ad.Bo|(apply Ad.Ac;rfl)|(intro _;try(exfalso;omega)))
 all_goals try(exfalso;omega)
 refine Ad.DR (fun k:Nat=>[(1,.ref 0 0),(2,.ref 1 0),(3,.ref 2 0),(5,.p (.int .i64 (k:Int)))]) (fun k=>[(5,.vec 236 [] 0 true),(4,.vec 118 (cells (Hy R x.Ae k)) (Hy R x.Ae k).length true),(2,.box 27 [.p (.str (bs [79,114,103,97,110])),.p (.lst 113 (cells R) R.length),.vec 4 (Hy R x.Ae k).length 0 (Hy R x.Ae k).length,.vec 5 0 0 0]),(1,.box 27 [.p (.str ⟨#[]⟩),.p (.val (.slice none 0 0)),.p (.val (.slice none 0 0)),.p (.val (.slice none 0 0))]),(0,.box 54 (x.enc.map .p))]) 6 (fun k=>k≤x.Ae.length) (fun k=>x.Ae.length-k) 0 (by omega) (by omega) ⟨by omega,?_,?_⟩ ?_
 ·exact Du
 ·exact Ec
 intro k g;have f:=Oo R x.Ae k;have c:Hy R x.Ae (k+1)=Hy R x.Ae k++[uM R (gi x.Ae k) k]:=rfl;have d:(Hy R x.Ae (k+1)).length=(Hy R x.Ae k).length+1:=by rw[c];simp
 by_cases b:k<x.Ae.length
 ·obtain⟨z,y,w,u⟩:=e.Ae k b
  have s:=m k b;have O:uM R (gi x.Ae k) k=⟨O9 68 (k:Int),(gi x.Ae k).FC,Fa (gi x.Ae k),FM (gi x.Ae k),G6 R (Fa (gi x.Ae k)) (FM (gi x.Ae k)) (gi x.Ae k).stops (gi x.Ae k).stops.length⟩:=rfl;have i:0≤Fa (gi x.Ae k)∧Fa (gi x.Ae k)≤FM (gi x.Ae k)∧FM (gi x.Ae k)≤127:=by unfold FM Fa;omega
  have B:(gi x.Ae k).stops.length≤3:=s
  repeat' (first|(apply Aa.Ap;rfl;rfl;rfl;omega;rfl)|refine Jq ?_|(apply Aa.Iw;rfl;rfl;rfl;rfl;rfl;omega)|(apply Aa.int;rfl;rfl;rfl)|(apply Aa.build;rfl;rfl;rfl;rfl;rfl)|(apply Aa.buildSlice;rfl;rfl;rfl;decide;rfl;rfl;rfl)|(apply Aa.YP;rfl;rfl;(first|omega|(simp only[List.length_take,List.length_drop,List.length_append,List.length_singleton,List.length_cons,List.length_nil]<;>omega)))|(apply Aa.Io;rfl;rfl;rfl;rfl;omega)|(apply Aa.NU;rfl;rfl;rfl;rfl;omega)|(apply Ad.Ac;rfl)|(intro _;try(exfalso;omega)))
  all_goals try(exfalso;omega)
  refine Ad.ghost (Aq.Fg 8 4 229 rfl rfl) ?_;refine Ad.DR (fun j:Nat=>[(1,.ref 0 0),(2,.ref 1 0),(3,.ref 2 0),(5,.p (.int .i64 (k:Int))),(6,.ref 6 0),(7,.p (.int .i64 (Fa (gi x.Ae k)))),(8,.ref 8 0),(9,.p (.int .i64 (j:Int)))]) (fun j=>[(9,.vec 229 (cells (G6 R (Fa (gi x.Ae k)) (FM (gi x.Ae k)) (gi x.Ae k).stops j)) (G6 R (Fa (gi x.Ae k)) (FM (gi x.Ae k)) (gi x.Ae k).stops j).length true),(8,.box 118 [.p (.str (bs (O9 68 (k:Int)))),.p (.bool (gi x.Ae k).FC),.p (.int .i64 (Fa (gi x.Ae k))),.p (.int .i64 (FM (gi x.Ae k))),.vec 9 (G6 R (Fa (gi x.Ae k)) (FM (gi x.Ae k)) (gi x.Ae k).stops j).length 0 (G6 R (Fa (gi x.Ae k)) (FM (gi x.Ae k)) (gi x.Ae k).stops j).length]),(6,.box 211 ((Enc.enc (gi x.Ae k)).map .p)),(5,.vec 236 [] 0 true),(4,.vec 118 (cells (Hy R x.Ae k)) (Hy R x.Ae k).length true),(2,.box 27 [.p (.str (bs [79,114,103,97,110])),.p (.lst 113 (cells R) R.length),.vec 4 (Hy R x.Ae k).length 0 (Hy R x.Ae k).length,.vec 5 0 0 0]),(1,.box 27 [.p (.str ⟨#[]⟩),.p (.val (.slice none 0 0)),.p (.val (.slice none 0 0)),.p (.val (.slice none 0 0))]),(0,.box 54 (x.enc.map .p))]) 10 (fun j=>j≤(gi x.Ae k).stops.length) (fun j=>(gi x.Ae k).stops.length-j) 0 (by omega) (by omega) ⟨by omega,?_,?_⟩ ?_
  ·exact Du
  ·exact Ec
  intro j N;have M:=IK R (Fa (gi x.Ae k)) (FM (gi x.Ae k)) (gi x.Ae k).stops j;have n:G6 R (Fa (gi x.Ae k)) (FM (gi x.Ae k)) (gi x.Ae k).stops (j+1)=G6 R (Fa (gi x.Ae k)) (FM (gi x.Ae k)) (gi x.Ae k).stops j++[UU R (Fa (gi x.Ae k)) (FM (gi x.Ae k)) (gi (gi x.Ae k).stops j) j]:=rfl;have A:(G6 R (Fa (gi x.Ae k)) (FM (gi x.Ae k)) (gi x.Ae k).stops (j+1)).length=(G6 R (Fa (gi x.Ae k)) (FM (gi x.Ae k)) (gi x.Ae k).stops j).length+1:=by rw[n];simp
  by_cases l:j<(gi x.Ae k).stops.length
  ·have C:=(ZL R (Fa (gi x.Ae k)) (FM (gi x.Ae k)) (gi (gi x.Ae k).stops j) j K i (u j l) (by omega)).1
   repeat' (first|(apply Aa.fn;rfl;rfl;exact C;intro _;rfl)|(apply Aa.Dn (a:=UU R (Fa (gi x.Ae k)) (FM (gi x.Ae k)) (gi (gi x.Ae k).stops j) j);rfl;rfl;rfl;rfl;rfl;rfl;rfl;rfl;(intro _ h;cases h);rfl;rfl;rfl;decide;decide;(first|omega|(simp only[List.length_take,List.length_drop,List.length_append,List.length_singleton,List.length_cons,List.length_nil]<;>omega)))|(apply Aa.Ap;rfl;rfl;rfl;omega;rfl)|refine Jq ?_|(apply Aa.int;rfl;rfl;rfl)|(apply Aa.buildSlice;rfl;rfl;rfl;decide;rfl;rfl;rfl)|(apply Ad.Ac;rfl)|(intro _;try(exfalso;omega)))
   all_goals try(exfalso;omega)
   refine Ai.normal ⟨j+1,by omega,by omega,⟨by omega,?_,?_⟩⟩
   ·exact Du
   ·rw[A,n];exact Ec
  obtain rfl:j=(gi x.Ae k).stops.length:=by omega
  repeat' (first|(refine Ad.atEnd 16 ?_;refine Ad.ghost (Aq.Dx 8 4 rfl rfl rfl) ?_;first|apply Ad.region|apply Ad.E5)|(apply Aa.Dn (a:=uM R (gi x.Ae k) k);rfl;rfl;rfl;rfl;rfl;rfl;rfl;rfl;(intro _ h;cases h);rfl;rfl;rfl;decide;decide;(first|omega|(simp only[List.length_take,List.length_drop,List.length_append,List.length_singleton,List.length_cons,List.length_nil]<;>omega)))|refine VU ?_|apply Ad.Bo|apply Ad.region|(apply Aa.int;rfl;rfl;rfl)|(apply Aa.buildSlice;rfl;rfl;rfl;decide;rfl;rfl;rfl)|(apply Ad.Ac;rfl)|(intro _;try(exfalso;omega)))
  all_goals try(exfalso;omega)
  refine Ai.normal ⟨k+1,by omega,by omega,⟨by omega,?_,?_⟩⟩
  ·exact Du
  ·rw[d,c];exact Ec
 obtain rfl:k=x.Ae.length:=by omega
 clear c d f b g;have L:=Oo R x.Ae x.Ae.length;generalize Hy R x.Ae x.Ae.length=D at *
 repeat' (first|(refine Ad.at 17 ?_;refine Ad.ghost (Aq.Dx 2 2 rfl rfl rfl) ?_;first|apply Ad.Bo|apply Ad.Ce)|refine go0 ?_|apply Ad.Bo|(apply Ad.Ac;rfl)|(intro _;try(exfalso;omega)))
 all_goals try(exfalso;omega)
 refine Ad.DR (fun k:Nat=>[(1,.ref 0 0),(2,.ref 1 0),(3,.ref 2 0),(10,.p (.int .i64 (x.Ae.length:Int))),(11,.p (.int .i64 (k:Int)))]) (fun k=>[(5,.vec 236 (cells (FN x.Ae.length x.links k)) (FN x.Ae.length x.links k).length true),(2,.box 27 [.p (.str (bs [79,114,103,97,110])),.p (.lst 113 (cells R) R.length),.p (.lst 118 (cells D) D.length),.vec 5 (FN x.Ae.length x.links k).length 0 (FN x.Ae.length x.links k).length]),(1,.box 27 [.p (.str ⟨#[]⟩),.p (.val (.slice none 0 0)),.p (.val (.slice none 0 0)),.p (.val (.slice none 0 0))]),(0,.box 54 (x.enc.map .p))]) 6 (fun k=>k≤x.links.length) (fun k=>x.links.length-k) 0 (by omega) (by omega) ⟨by omega,?_,?_⟩ ?_
 ·exact Du
 ·exact Ec
 intro k g;have f:=RJ x.Ae.length x.links k;by_cases b:k<x.links.length
 ·obtain⟨z,y,w⟩:=e.links k b
  have E:((gi x.links k).WQ:Int)%x.Ae.length≥0:=bB _ (by omega);by_cases r:((gi x.links k).WQ:Int)%x.Ae.length=((gi x.links k).tgt:Int)%x.Ae.length
  ·by_cases q:(gi x.links k).shift.tmod 25=0
   ·have c:FN x.Ae.length x.links (k+1)=FN x.Ae.length x.links k++[(⟨O9 67 (k:Int),((gi x.links k).WQ:Int)%x.Ae.length,((gi x.links k).tgt:Int)%x.Ae.length,12,(gi x.links k).through⟩:qc)]:=by
     show FN x.Ae.length x.links k++[Y0 x.Ae.length (gi x.links k) k]=_;unfold Y0;rw[if_pos ⟨r,q⟩]
    have d:(FN x.Ae.length x.links (k+1)).length=(FN x.Ae.length x.links k).length+1:=by rw[c];simp
    repeat' (first|(apply Aa.Dn (a:=(⟨O9 67 (k:Int),((gi x.links k).WQ:Int)%x.Ae.length,((gi x.links k).tgt:Int)%x.Ae.length,12,(gi x.links k).through⟩:qc));rfl;rfl;rfl;rfl;rfl;rfl;rfl;rfl;(intro _ h;cases h);rfl;rfl;rfl;decide;decide;(first|omega|(simp only[List.length_take,List.length_drop,List.length_append,List.length_singleton,List.length_cons,List.length_nil]<;>omega)))|(apply Aa.Ap;rfl;rfl;rfl;omega;rfl)|refine Jq ?_|(apply Aj.guard;rfl;rfl)|(apply Aa.Iw;rfl;rfl;rfl;rfl;rfl;omega)|(apply Aa.int;rfl;rfl;rfl)|(apply Aa.build;rfl;rfl;rfl;rfl;rfl)|(apply Aa.buildSlice;rfl;rfl;rfl;decide;rfl;rfl;rfl)|(apply Aa.YP;rfl;rfl;(first|omega|(simp only[List.length_take,List.length_drop,List.length_append,List.length_singleton,List.length_cons,List.length_nil]<;>omega)))|(apply Aa.Io;rfl;rfl;rfl;rfl;omega)|(apply Aa.NU;rfl;rfl;rfl;rfl;omega)|(apply Ad.Ac;rfl)|(intro _;try(exfalso;omega)))
    all_goals try(exfalso;omega)
    refine Ai.normal ⟨k+1,by omega,by omega,⟨by omega,?_,?_⟩⟩
    ·exact Du
    ·rw[d,c];exact Ec
   ·have c:FN x.Ae.length x.links (k+1)=FN x.Ae.length x.links k++[(⟨O9 67 (k:Int),((gi x.links k).WQ:Int)%x.Ae.length,((gi x.links k).tgt:Int)%x.Ae.length,(gi x.links k).shift.tmod 25,(gi x.links k).through⟩:qc)]:=by
     show FN x.Ae.length x.links k++[Y0 x.Ae.length (gi x.links k) k]=_;unfold Y0;rw[if_neg (fun h=>q h.2)]
    have d:(FN x.Ae.length x.links (k+1)).length=(FN x.Ae.length x.links k).length+1:=by rw[c];simp
    repeat' (first|(apply Aa.Dn (a:=(⟨O9 67 (k:Int),((gi x.links k).WQ:Int)%x.Ae.length,((gi x.links k).tgt:Int)%x.Ae.length,(gi x.links k).shift.tmod 25,(gi x.links k).through⟩:qc));rfl;rfl;rfl;rfl;rfl;rfl;rfl;rfl;(intro _ h;cases h);rfl;rfl;rfl;decide;decide;(first|omega|(simp only[List.length_take,List.length_drop,List.length_append,List.length_singleton,List.length_cons,List.length_nil]<;>omega)))|(apply Aa.Ap;rfl;rfl;rfl;omega;rfl)|refine Jq ?_|(apply Aj.guard;rfl;rfl)|(apply Aa.Iw;rfl;rfl;rfl;rfl;rfl;omega)|(apply Aa.int;rfl;rfl;rfl)|(apply Aa.build;rfl;rfl;rfl;rfl;rfl)|(apply Aa.buildSlice;rfl;rfl;rfl;decide;rfl;rfl;rfl)|(apply Aa.YP;rfl;rfl;(first|omega|(simp only[List.length_take,List.length_drop,List.length_append,List.length_singleton,List.length_cons,List.length_nil]<;>omega)))|(apply Aa.Io;rfl;rfl;rfl;rfl;omega)|(apply Aa.NU;rfl;rfl;rfl;rfl;omega)|(apply Ad.Ac;rfl)|(intro _;try(exfalso;omega)))
    all_goals try(exfalso;omega)
    refine Ai.normal ⟨k+1,by omega,by omega,⟨by omega,?_,?_⟩⟩
    ·exact Du
    ·rw[d,c];exact Ec
  ·have c:FN x.Ae.length x.links (k+1)=FN x.Ae.length x.links k++[(⟨O9 67 (k:Int),((gi x.links k).WQ:Int)%x.Ae.length,((gi x.links k).tgt:Int)%x.Ae.length,(gi x.links k).shift.tmod 25,(gi x.links k).through⟩:qc)]:=by
    show FN x.Ae.length x.links k++[Y0 x.Ae.length (gi x.links k) k]=_;unfold Y0;rw[if_neg (fun h=>r h.1)]
   have d:(FN x.Ae.length x.links (k+1)).length=(FN x.Ae.length x.links k).length+1:=by rw[c];simp
   repeat' (first|(apply Aa.Dn (a:=(⟨O9 67 (k:Int),((gi x.links k).WQ:Int)%x.Ae.length,((gi x.links k).tgt:Int)%x.Ae.length,(gi x.links k).shift.tmod 25,(gi x.links k).through⟩:qc));rfl;rfl;rfl;rfl;rfl;rfl;rfl;rfl;(intro _ h;cases h);rfl;rfl;rfl;decide;decide;(first|omega|(simp only[List.length_take,List.length_drop,List.length_append,List.length_singleton,List.length_cons,List.length_nil]<;>omega)))|(apply Aa.Ap;rfl;rfl;rfl;omega;rfl)|refine Jq ?_|(apply Aj.guard;rfl;rfl)|(apply Aa.Iw;rfl;rfl;rfl;rfl;rfl;omega)|(apply Aa.int;rfl;rfl;rfl)|(apply Aa.build;rfl;rfl;rfl;rfl;rfl)|(apply Aa.buildSlice;rfl;rfl;rfl;decide;rfl;rfl;rfl)|(apply Aa.YP;rfl;rfl;(first|omega|(simp only[List.length_take,List.length_drop,List.length_append,List.length_singleton,List.length_cons,List.length_nil]<;>omega)))|(apply Aa.Io;rfl;rfl;rfl;rfl;omega)|(apply Aa.NU;rfl;rfl;rfl;rfl;omega)|(apply Ad.Ah;rfl)|(apply Ad.Ac;rfl)|(intro _;try(exfalso;omega)))
   all_goals try(exfalso;omega)
   refine Ai.normal ⟨k+1,by omega,by omega,⟨by omega,?_,?_⟩⟩
   ·exact Du
   ·rw[d,c];exact Ec
 obtain rfl:k=x.links.length:=by omega
 repeat' (first|(refine Ad.at 26 ?_;refine Ad.ghost (Aq.Dx 2 3 rfl rfl rfl) ?_;first|apply Ad.Bo|apply Ad.Ce)|refine go0 ?_|apply Ad.Bo|(apply Ad.Ac;rfl)|(intro _;try(exfalso;omega)))
 all_goals first|(exfalso;omega)|(refine Done.rt rfl rfl ⟨?_,rfl,rfl⟩;rfl)
attribute [local irreducible] CJ Bf A8
theorem qF(a:List H7)(l:List Brd):∀k i,i<k→gi (Hy a l k) i=uM a (gi l i) i
 |k+1,i,h=>by
  simp only[Hy,Iz,Oo];by_cases b:i<k
  ·rw[if_pos b];exact qF a l k i b
  grind
theorem je(a:List H7)(b c:Int)(l:List Pul):∀k i,i<k→gi (G6 a b c l k) i=UU a b c (gi l i) i
 |k+1,i,h=>by
  simp only[G6,Iz,IK];by_cases d:i<k
  ·rw[if_pos d];exact je a b c l k i d
  grind
theorem rU(n:Nat)(l:List Lnk):∀k i,i<k→gi (FN n l k) i=Y0 n (gi l i) i
 |k+1,i,h=>by
  simp only[FN,Iz,RJ];by_cases a:i<k
  ·rw[if_pos a];exact rU n l k i a
  grind
theorem b0r(b:Brd):0≤Fa b∧Fa b≤FM b∧FM b≤127:=by unfold FM Fa;omega
structure yO(o:FQ):Prop where
 sm:Tm o
 ranks:1≤o.ranks.length∧o.ranks.length≤3
 Ae:1≤o.Ae.length∧o.Ae.length≤3
 I8:o.I8.length≤3
 stops:∀i,i<o.Ae.length→(gi o.Ae i).stops.length≤3
 rk:a1x o.ranks
 dv:∀i,i<o.Ae.length→0≤(gi o.Ae i).lo∧(gi o.Ae i).lo≤(gi o.Ae i).hi∧(gi o.Ae i).hi≤127
 dn:∀i,i<o.Ae.length→(gi o.Ae i).name=O9 68 i
 st:∀i,i<o.Ae.length→∀j,j<(gi o.Ae i).stops.length→Eb o.ranks (gi o.Ae i).lo (gi o.Ae i).hi (gi (gi o.Ae i).stops j)=0∧(gi (gi o.Ae i).stops j).name=O9 83 j∧∃a,a<6∧(gi (gi o.Ae i).stops j).Eu=gi Tf a
 cp:∀i,i<o.I8.length→a7m o.Ae.length (gi o.I8 i)∧(gi o.I8 i).name=O9 67 i
 rn:∀i,i<o.ranks.length→(gi o.ranks i).name=O9 82 i
 nm:o.name=[79,114,103,97,110]
theorem b6t(n:Nat)(c:Lnk)(k:Nat)(f:1≤n)(d:c.Ok)(b:k<10):a7m n (Y0 n c k):=by
 obtain⟨i,h,g⟩:=d;have m1:=bB (c.WQ:Int) (show(n:Int)≠0 by omega);have m2:=bz (c.WQ:Int) (show 0<(n:Int) by omega);have m3:=bB (c.tgt:Int) (show(n:Int)≠0 by omega);have a:=bz (c.tgt:Int) (show 0<(n:Int) by omega);refine⟨zA (by decide) b,⟨m1,m2⟩,⟨m3,a⟩,?_,?_⟩
 ·have e:(Y0 n c k).shift=if(c.WQ:Int)%n=(c.tgt:Int)%n∧c.shift.tmod 25=0 then 12 else c.shift.tmod 25:=rfl
  grind
 ·show¬ ((c.WQ:Int)%n=(c.tgt:Int)%n∧(if(c.WQ:Int)%n=(c.tgt:Int)%n∧c.shift.tmod 25=0 then(12:Int) else c.shift.tmod 25)=0)
  omega
theorem c0n(x:GX)(i:Int):jL (Wu x i):=by
 have h:=b5j x i;have w:=a8y x i;unfold Wu at h w ⊢;refine⟨by simp,?_,by omega⟩;have:(gi U5 (x.Kt%3)).length≤5:=b7v (P:=fun l:List UInt8=>l.length≤5) (by decide) (show x.Kt%3<U5.length from bc _ (by decide));grind
theorem b1n(x:GX)(i:Nat)(a:i<10):(Wu x i).name=O9 82 i:=by
 unfold Wu O9;grind
theorem qA(x:OPl)(m:x.Ok)(u:dA x):yO (eF x):=by
 obtain⟨s,r,q,e⟩:=u;have n:=jR m.ranks (by omega);have g:(eF x).ranks=ES x.ranks x.ranks.length:=rfl;have d:(eF x).Ae=Hy (ES x.ranks x.ranks.length) x.Ae x.Ae.length:=rfl;have l:(eF x).I8=FN x.Ae.length x.links x.links.length:=rfl;have o:(eF x).name=[79,114,103,97,110]:=rfl;have rn:∀i,i<x.ranks.length→gi (ES x.ranks x.ranks.length) i=Wu (gi x.ranks i) (i:Int):=WU _ _;generalize hRR:ES x.ranks x.ranks.length=R at *;have w:R.length=x.ranks.length:=by rw[← hRR,JW]
 have y:=Oo R x.Ae x.Ae.length;have z:=RJ x.Ae.length x.links x.links.length;have dg:∀i,i<x.Ae.length→gi (Hy R x.Ae x.Ae.length) i=uM R (gi x.Ae i) i:=qF _ _ _;have p:∀i,i<x.links.length→gi (FN x.Ae.length x.links x.links.length) i=Y0 x.Ae.length (gi x.links i) i:=rU _ _ _;have h:∀b k,(uM R b k).stops=G6 R (Fa b) (FM b) b.stops b.stops.length:=fun _ _=>rfl
 have f:∀i,i<x.Ae.length→∀j,j<(gi x.Ae i).stops.length→gi (G6 R (Fa (gi x.Ae i)) (FM (gi x.Ae i)) (gi x.Ae i).stops (gi x.Ae i).stops.length) j=UU R (Fa (gi x.Ae i)) (FM (gi x.Ae i)) (gi (gi x.Ae i).stops j) j∧b2z R (Fa (gi x.Ae i)) (FM (gi x.Ae i)) (gi (gi x.Ae i).stops j) j (UU R (Fa (gi x.Ae i)) (FM (gi x.Ae i)) (gi (gi x.Ae i).stops j) j):=fun i a j c =>
  ⟨je _ _ _ _ _ _ c,ZL R _ _ _ j n (b0r _) ((m.Ae i a).all j c) (by have:=e i a;omega)⟩
 refine⟨⟨by rw[o];simp,by rw[g];omega,by rw[d];omega,by rw[l];omega,fun i a=>?_,fun i a=>?_,fun i a=>?_⟩,by rw[g];omega,by rw[d];omega,by rw[l];omega,fun i a=>?_,by rw[g];exact n,fun i a=>?_,fun i a=>?_,fun i a j c=>?_,fun i a=>?_,fun i a=>?_,o⟩
 ·rw[g] at a ⊢;rw[rn i (by omega)];exact c0n _ _
 ·rw[d] at a ⊢;rw[dg i (by omega)]
  refine⟨by simp[uM,O9],by rw[h,IK];have:=e i (by omega);omega,fun j c=>?_⟩;rw[h,IK] at c;rw[h,(f i (by omega) j c).1];exact(f i (by omega) j c).2.2.2.2.1
 ·rw[l] at a ⊢;rw[p i (by omega)];simp[Y0,O9]
 ·rw[d] at a ⊢;rw[dg i (by omega),h,IK];exact e i (by omega)
 ·rw[d] at a ⊢;rw[dg i (by omega)];exact b0r _
 ·rw[d] at a ⊢;rw[dg i (by omega)];rfl
 ·rw[d] at a c ⊢;rw[dg i (by omega),h,IK] at c;rw[g,dg i (by omega),h,(f i (by omega) j c).1]
  exact⟨(f i (by omega) j c).2.2.2.1,(f i (by omega) j c).2.2.1,(f i (by omega) j c).2.2.2.2.2⟩
 ·rw[l] at a ⊢;rw[d,y,p i (by omega)]
  exact⟨b6t _ _ _ (by omega) (m.links i (by omega)) (by omega),rfl⟩
 ·rw[g] at a ⊢;rw[rn i (by omega)];exact b1n _ _ (by omega)
theorem b9l:DT [79,114,103,97,110]:=by
 refine⟨by decide,by decide,by decide,fun i b a=>?_⟩;have:i=1∨i=2∨i=3∨i=4:=by simp at a;omega
 rcases this with rfl|rfl|rfl|rfl<;>exact .inl (by decide)
theorem yO.ok{o:FQ}(h:yO o):VI o=0:=by
 have n:=h.ranks;have p:=h.Ae;have q:=h.I8;unfold VI;rw[if_neg (fun b=>b (h.nm▸b9l)),if_neg (by omega)];have k:QY o.ranks 0=0:=Xy (fun i hi=>⟨(h.rk.ok i hi).1,mg (c:=82) (by omega) h.rn hi⟩) _ 0 rfl;rw[if_neg (fun b=>b k),if_neg (by omega),if_neg (by omega)];have l:GI o.ranks o.Ae 0=0:=UA (fun i hi=>by
  have s1:=h.stops i hi;refine⟨by rw[h.dn i hi];exact zA (by decide) (by omega),mg (c:=68) (by omega) h.dn hi,?_⟩;unfold DW;rw[Rl (h.dv i hi),if_neg (fun h=>h rfl),if_neg (by omega)];exact Us (fun j g=>⟨(h.st i hi j g).1,mg (c:=83) (by omega) (fun a f=>(h.st i hi a f).2.1) g⟩) _ 0 rfl) _ 0 rfl
 rw[if_neg (fun b=>b l)];unfold EF;rw[if_neg (by grind)];have m:TT (o.Ae.map fun d=>⟨d.lo,d.hi⟩) 0=0:=Xt (fun i hi=>by
  rw[aM] at hi;have e:gi (o.Ae.map fun d=>(⟨d.lo,d.hi⟩:pY)) i=⟨(gi o.Ae i).lo,(gi o.Ae i).hi⟩:=by simp[gi,List.getElem?_eq_getElem hi]
  rw[e];exact Rl (h.dv i hi)) _ 0 rfl
 rw[if_neg (fun b=>b m),aM];exact Uc (fun i hi=>⟨(h.cp i hi).1,mg (c:=67) (by omega) (fun a f=>(h.cp a f).2) hi⟩) _ 0 rfl
end Go.Proofs.YtnjkoebfgcbbdaaGreatDoor
namespace Go.Proofs.YtnjkoebfgcbbdaaGreatDoor
open Go Go.Am Go.Vm
attribute [local irreducible] Aa Aj Ag Ad AL Ak Bd BL Bl Ai Vm.Done BD AO
attribute [local irreducible] CJ Bf
theorem U7(a b:Int):Ak env 110 [.agg [.int .i64 a,.int .i64 b]] (.p (.int .i64 (Xg a b))):=by
 unfold Xg;refine Ak.enter (Af (by decide)) Tryz.func110 rfl (by kernel_rfl) (by simp) ?_
 repeat' (first|refine JD ?_|(apply Aj.guard;rfl;rfl)|(apply Ad.cond_true;rfl)|(apply Ad.Au;rfl)|(intro _))
 all_goals first
  |(rw[if_pos (by omega)];(refine Done.rt rfl rfl ⟨?_,rfl,rfl⟩;try rfl);done)
  |(rw[if_neg (by omega),if_pos (by omega)];(refine Done.rt rfl rfl ⟨?_,rfl,rfl⟩;try rfl);done)
  |(rw[if_neg (by omega),if_neg (by omega)];(refine Done.rt rfl rfl ⟨?_,rfl,rfl⟩;try rfl);done)
theorem tJ:WM Tryz.prog 270=true:=by kernel_rfl
theorem b9u(x y:wX):Vm.iy Tryz.prog 270 (Enc.enc x) (Enc.enc y)=some (decide (x=y)):=by
 show some (decide (x.rank=y.rank)&&(decide (x.shift=y.shift)&&true))=_;by_cases h:x=y
 ·grind
 ·have:¬ (x.rank=y.rank∧x.shift=y.shift):=fun b=>h (by cases x;simp_all)
  by_cases a:x.rank=y.rank<;>simp_all
theorem fP{α:Type}[Inhabited α]{a:α}{l:List α}:a∈l↔∃i,i<l.length∧gi l i=a:=by
 constructor
 ·intro h
  obtain⟨i,b,e⟩:=ed h;exact⟨i,b,by simp[gi,List.getElem?_eq_getElem b,e]⟩
 ·rintro⟨i,b,e⟩
  rw[← e];simp only[gi,List.getElem?_eq_getElem b,Option.getD_some];simp
theorem Zg{α:Type}[Inhabited α]{l:List α}{i k:Nat}(h:i<k):gi (l.take k) i=gi l i:=by simp[gi,List.getElem?_take,h]
theorem Eh{α:Type}[Inhabited α]{l:List α}{k:Nat}(a:k<l.length):l.take (k+1)=l.take k++[gi l k]:=by
 simp[gi,List.getElem?_eq_getElem a]
theorem b6r{L:Vm.Frame}{H:Vm.Heap}{nx:Nat}{Q:PV→Vm.Heap→Nat→Prop}{dst:Option Tmp}{ty:TypeId}{pos:String}{af:Array Edge}{gd:Option (Nat×Bool)}{e:Operand}{args:Array Operand}{j:Array TypeId}{a cs xs:List PV}{c:Code}
 (g:AU env.Γ L e=some (.clo 206 a cs)) (i:evs env.Γ L args.toList=some xs) (b:Tryz.f206.body=some c) (f:(a++xs++cs).length≤Tryz.f206.ntmps)
 (h:Ad env nx c (CG 0 (a++xs++cs)) H nx (AO env.P Tryz.f206.results.toList Q)):Aa env true ⟨dst,.call { callee:=.value e,args:=args,argTypes:=j },ty,pos,af,gd⟩ L H nx Q:=by
 have d:(match Tryz.f206.body with|some c=>Ir env.G Tryz.f206 c|none=>false)=true:=by kernel_rfl
 rw[b] at d;exact Aa.inline rfl g i (Af (by decide)) Tryz.func206 b d f h
theorem iE(l:List wX)(d:wX)(m:l.length<1000000):Ak env 199 [.lst 270 (cells l) l.length,.agg (Enc.enc d)] (.p (.bool (decide (d∈l)))):=by
 refine Ak.enter (Af (by decide)) Tryz.func199 rfl (by kernel_rfl) (by simp) ?_
 repeat' (first|(apply b6r;rfl;rfl;rfl;exact le_dec rfl)|refine go2 ?_|fail)
 refine Ad.DR (fun k:Nat=>[(0,lst 270 l),(3,.ref 1 0),(7,.p (.int .i64 (l.length:Int))),(8,.p (.int .i64 (k:Int)))]) (fun _=>[(1,.box 270 ((Enc.enc d).map .p)),(0,.box 270 ((Enc.enc d).map .p))]) 2 (fun k=>k≤l.length∧∀i,i<k→d≠gi l i) (fun k=>l.length-k) 0 (by omega) ⟨by omega,fun i g=>by omega⟩ ⟨by omega,?_,?_⟩ ?_
 ·exact Du
 ·exact Ec
 rintro k ⟨n,b⟩;have a:=b9u d (gi l k);by_cases c:d=gi l k
 ·rw[decide_eq_true c] at a
  repeat' (first|(apply Aa.b1g;rfl;rfl;exact tJ;exact a)|(apply Aa.Ap;rfl;rfl;rfl;omega;rfl)|refine go2 ?_|(apply AO.ret;rfl)|(apply Aa.int;rfl;rfl;rfl)|(apply Ad.Ac;rfl)|(apply Ad.cond_true;rfl)|(intro _;try(exfalso;omega)))
  ·rename_i e
   rw[decide_eq_true (fP.2 ⟨k,by omega,c.symm⟩)];refine Done.rt rfl rfl ⟨?_,rfl,rfl⟩;rfl
  ·rename_i e
   rw[decide_eq_false (fun h=>by obtain⟨i,j,f⟩:=fP.1 h;grind)]
   (refine Done.rt rfl rfl ⟨?_,rfl,rfl⟩;try rfl)
 ·rw[decide_eq_false c] at a
  repeat' (first|(apply Aa.b1g;rfl;rfl;exact tJ;exact a)|(apply Aa.Ap;rfl;rfl;rfl;omega;rfl)|refine go2 ?_|(apply AO.ret;rfl)|(apply Aa.int;rfl;rfl;rfl)|(apply Ad.Ac;rfl)|(apply Ad.cond_false;rfl)|(intro _;try(exfalso;omega)))
  ·rename_i e
   refine Ai.normal ⟨k+1,⟨by omega,fun i g=>?_⟩,by omega,⟨by omega,?_,?_⟩⟩
   ·grind
   ·exact Du
   ·exact Ec
  ·rename_i e
   rw[decide_eq_false (fun h=>by obtain⟨i,j,f⟩:=fP.1 h;exact b i (by omega) f.symm)]
   (refine Done.rt rfl rfl ⟨?_,rfl,rfl⟩;try rfl)
def a5e(rk:List H7)(lo hi:Int):List FV:=[.lst 113 (cells rk) rk.length,.int .i64 lo,.int .i64 hi]
theorem a0a(b:List H7)(c d:Int)(l:List wX)(i:l.length<1000000)(h:b.length<1000000):Ak env 182 [.agg (a5e b c d),.lst 270 (cells l) l.length] (.p (.int .i64 (Zz b.length l))):=by
 unfold Zz;refine Ak.enter (Af (by decide)) Tryz.func182 rfl (by kernel_rfl) (by simp[Tryz.ntmps182]) ?_
 repeat' (first|refine JD ?_|(apply Ad.Ac;rfl)|(intro _;try(exfalso;omega)))
 ·rw[if_pos (by omega)];(refine Done.rt rfl rfl ⟨?_,rfl,rfl⟩;try rfl)
 rw[if_neg (by omega)];refine Ad.DR (fun k:Nat=>[(1,lst 270 l),(2,.ref 0 0),(10,lst 270 l),(11,.p (.int .i64 (l.length:Int))),(12,.p (.int .i64 (k:Int)))]) (fun _=>[(0,.box 277 ((a5e b c d).map .p))]) 1 (fun k=>k≤l.length∧Td b.length l k=Td b.length l 0) (fun k=>l.length-k) 0 (by omega) ⟨by omega,rfl⟩ ⟨by omega,?_,?_⟩ ?_
 ·exact Du
 ·exact Ec
 rintro k ⟨j,f⟩;have e:=iE (l.take k) (gi l k) (by rw[ar];omega);rw[ar,cE (by omega)] at e;rw[← f];by_cases a:k<l.length
 ·rw[Td,if_pos a]
  generalize hg:decide (gi l k∈l.take k)=g at *;cases g;all_goals
   repeat' (first|(apply Aa.fn;rfl;rfl;exact e;intro _;rfl)|(apply Aa.Ap;rfl;rfl;rfl;omega;rfl)|refine Jq ?_|apply Ad.Jh|(apply Aj.guard;rfl;rfl)|(apply Aa.sliceTo;rfl;rfl;rfl;rfl;rfl;rfl;omega)|(apply Aa.int;rfl;rfl;rfl)|(apply Ad.Ac;rfl)|(apply Ad.cond_true;rfl)|(apply Ad.cond_false;rfl)|(apply Ad.Au;rfl)|(intro _;try(exfalso;omega)))
  all_goals try(exfalso;omega)
  all_goals first
   |(rw[if_pos (by omega)];(refine Done.rt rfl rfl ⟨?_,rfl,rfl⟩;try rfl);done)
   |(rw[if_neg (by omega),if_pos (by omega)];(refine Done.rt rfl rfl ⟨?_,rfl,rfl⟩;try rfl);done)
   |(rw[if_neg (by omega),if_neg (by omega),if_pos (of_decide_eq_true hg)];(refine Done.rt rfl rfl ⟨?_,rfl,rfl⟩;try rfl);done)
   |(rw[if_neg (by omega),if_neg (by omega),if_neg (of_decide_eq_false hg)]
     refine Ai.normal ⟨k+1,⟨by omega,?_⟩,by omega,⟨by omega,?_,?_⟩⟩
     ·first|rfl|(refine ez ?_ f;symm;(conv=>lhs;rw[Td]);rw[if_pos a,if_neg (by omega),if_neg (by omega),if_neg (of_decide_eq_false hg)])
     ·exact Du
     ·exact Ec)
 ·rw[Td,if_neg a]
  repeat' (first|refine go1 ?_|(apply Ad.Ac;rfl)|(intro _;try(exfalso;omega)))
  all_goals first|(exfalso;omega)|(refine Done.rt rfl rfl ⟨?_,rfl,rfl⟩;try rfl)
theorem zl(a:List H7)(d e:Int)(m:a.length<1000000)(j:∀i,i<a.length→jL (gi a i)):Ak env 181 [.agg (a5e a d e)] (.p (.int .i64 (qY a d e))):=by
 have f:=U7 d e;unfold qY;refine Ak.enter (Af (by decide)) Tryz.func181 rfl (by kernel_rfl) (by simp) ?_
 repeat' (first|refine JD ?_|(apply Ad.Ac;rfl)|(intro _;try(exfalso;omega)))
 ·rw[if_pos (by omega)];(refine Done.rt rfl rfl ⟨?_,rfl,rfl⟩;try rfl)
 rw[if_neg (by omega)];refine Ad.DR (fun k:Nat=>[(1,.ref 0 0),(11,lst 113 a),(12,.p (.int .i64 (a.length:Int))),(13,.p (.int .i64 (k:Int)))]) (fun _=>[(0,.box 277 ((a5e a d e).map .p))]) 1 (fun k=>k≤a.length∧gX a k=gX a 0) (fun k=>a.length-k) 0 (by omega) ⟨by omega,rfl⟩ ⟨by omega,?_,?_⟩ ?_
 ·exact Du
 ·exact Ec
 rintro k ⟨n,l⟩;rw[← l];by_cases c:k<a.length
 ·have b:=(j k c).len
  have g:=Yx (gi a k) b.1 b.2.1 b.2.2;rw[gX,if_pos c];by_cases h:CJ (gi a k)=0
  ·rw[h] at g ⊢
   rw[if_neg (by decide)]
   repeat' (first|(apply Aa.fn;rfl;rfl;exact g;intro _;rfl)|(apply Aa.Ap;rfl;rfl;rfl;omega;rfl)|refine go2 ?_|(apply Aa.int;rfl;rfl;rfl)|(apply Ad.Ac;rfl)|(apply Ad.cond_false;rfl)|(intro _;try(exfalso;omega)))
   all_goals try(exfalso;omega)
   refine Ai.normal ⟨k+1,⟨by omega,?_⟩,by omega,⟨by omega,?_,?_⟩⟩
   ·rfl
   ·exact Du
   ·exact Ec
  ·rw[if_pos h,if_pos h]
   repeat' (first|(apply Aa.fn;rfl;rfl;exact g;intro _;rfl)|(apply Aa.Ap;rfl;rfl;rfl;omega;rfl)|refine go2 ?_|(apply Aa.int;rfl;rfl;rfl)|(apply Ad.Ac;rfl)|(apply Ad.Au;rfl)|(intro _;try(exfalso;omega)))
   all_goals first|(exfalso;omega)|(refine Done.rt rfl rfl ⟨?_,rfl,rfl⟩;try rfl)
 ·rw[gX,if_neg c,if_neg (by decide)]
  repeat' (first|(apply Aa.fn;rfl;rfl;exact f;intro _;rfl)|refine go2 ?_|(apply Aa.int;rfl;rfl;rfl)|(apply Ad.Ac;rfl)|(intro _;try(exfalso;omega)))
  all_goals first|(exfalso;omega)|(refine Done.rt rfl rfl ⟨?_,rfl,rfl⟩;try rfl)
theorem a5n(a:List H7)(c d:Int)(s:Stp)(n:a.length<1000000)(u:∀i,i<a.length→jL (gi a i))(z:qK s):Ak env 157 [.agg (a5e a c d),.agg (Enc.enc s)] (.p (.int .i64 (Eb a c d s))):=by
 obtain⟨B,A,r⟩:=z;have e:=zl a c d n u;have f:=IV s.name (by omega);have l:=ML s.Eu;unfold Eb c1x;refine Ak.enter (Af (by decide)) Tryz.func157 rfl (by kernel_rfl) (by simp[Tryz.ntmps157]) ?_;by_cases q:qY a c d=0
 case neg =>
  rw[if_pos q]
  repeat' (first|(apply Aa.fn;rfl;rfl;exact e;intro _;rfl)|refine go2 ?_|(apply Aa.int;rfl;rfl;rfl)|(apply Ad.Ac;rfl)|(intro _;try(exfalso;omega)))
  all_goals first|(exfalso;omega)|(refine Done.rt rfl rfl ⟨?_,rfl,rfl⟩;try rfl)
 rw[q] at e ⊢;rw[if_neg (by decide)];by_cases g:DT s.name
 case neg =>
  rw[if_pos g];rw[decide_eq_false g] at f
  repeat' (first|(apply Aa.fn;rfl;rfl;exact e;intro _;rfl)|(apply Aa.fn;rfl;rfl;exact f;intro _;rfl)|refine go2 ?_|(apply Aa.int;rfl;rfl;rfl)|(apply Ad.AV;rfl)|(apply Ad.Ah;rfl))
  all_goals first|contradiction|(exfalso;omega)|(refine Done.rt rfl rfl ⟨?_,rfl,rfl⟩;try rfl)
 rw[if_neg (fun h=>h g)];rw[decide_eq_true g] at f;by_cases m:SG s.Eu=0
 case neg =>
  rw[if_pos m]
  repeat' (first|(apply Aa.fn;rfl;rfl;exact e;intro _;rfl)|(apply Aa.fn;rfl;rfl;exact f;intro _;rfl)|(apply Aa.fn;rfl;rfl;exact l;intro _;rfl)|refine go2 ?_|(apply Aa.int;rfl;rfl;rfl)|(apply Ad.Ah;rfl)|(apply Ad.Ac;rfl)|(intro _;try(exfalso;omega)))
  all_goals first|contradiction|(exfalso;omega)|(refine Done.rt rfl rfl ⟨?_,rfl,rfl⟩;try rfl)
 rw[if_neg (fun h=>h m)];rw[m] at l
 repeat' (first|(apply Aa.fn;rfl;rfl;exact e;intro _;rfl)|(apply Aa.fn;rfl;rfl;exact f;intro _;rfl)|(apply Aa.fn;rfl;rfl;exact l;intro _;rfl)|refine go2 ?_|(apply Aa.int;rfl;rfl;rfl)|(apply Ad.Ah;rfl)|(apply Ad.Au;rfl)|(intro _;try(exfalso;omega)))
 all_goals try contradiction
 all_goals try(exfalso;omega)
 ·rw[if_pos (by omega)];(refine Done.rt rfl rfl ⟨?_,rfl,rfl⟩;try rfl)
 ·rw[if_neg (by omega),if_pos (by omega)];(refine Done.rt rfl rfl ⟨?_,rfl,rfl⟩;try rfl)
 rw[if_neg (by omega),if_neg (by omega)];refine Ad.DR (fun k:Nat=>[(2,.ref 0 0),(3,.ref 1 0),(36,lst 273 s.Js),(37,.p (.int .i64 (s.Js.length:Int))),(38,.p (.int .i64 (k:Int)))]) (fun _=>[(1,.box 229 ((Enc.enc s).map .p)),(0,.box 277 ((a5e a c d).map .p))]) 2 (fun k=>k≤s.Js.length∧Oi a.length c d s.Js k=Oi a.length c d s.Js 0) (fun k=>s.Js.length-k) 0 (by omega) ⟨by omega,rfl⟩ ⟨by omega,?_,?_⟩ ?_
 ·exact Du
 ·exact Ec
 rintro k ⟨C,o⟩;rw[← o];by_cases b:k<s.Js.length
 ·have j:=(r k b).draws
  have y:=a0a a c d (gi s.Js k).draws j n;rw[Oi,if_pos b];have x:((k:Int)-1).toNat=k-1:=by omega
  have w:0<k→((k-1:Nat):Int)=(k:Int)-1:=fun h=>by omega
  generalize hD:Zz a.length (gi s.Js k).draws=D at *
  repeat' (first|(apply Aa.fn;rfl;rfl;exact y;intro _;rfl)|(apply Aa.Ap;rfl;rfl;rfl;omega;rfl)|(apply Aa.b2a;rfl;rfl;rfl;omega;omega;rfl)|refine Jq ?_|(apply Aj.guard;rfl;rfl)|(apply Ag.guard;rfl;rfl)|(apply Ag.dB;rfl;rfl)|(apply Aa.int;rfl;rfl;rfl)|(apply Aa.b6y;rfl;rfl)|(apply Aa.b9j;rfl;rfl)|(apply Ad.Ac;rfl)|(apply Ad.cond_true;rfl)|(apply Ad.cond_false;rfl)|(apply Ad.Au;rfl)|(intro _;try(exfalso;omega)))
  all_goals try(exfalso;omega)
  all_goals first
   |(rw[if_pos (by omega)];(refine Done.rt rfl rfl ⟨?_,rfl,rfl⟩;try rfl);done)
   |(rw[if_neg (by omega),if_pos (by omega)];(refine Done.rt rfl rfl ⟨?_,rfl,rfl⟩;try rfl);done)
   |(rw[if_neg (by omega),if_neg (by omega),if_pos (by omega)];(refine Done.rt rfl rfl ⟨?_,rfl,rfl⟩;try rfl);done)
   |(rw[if_neg (by omega),if_neg (by omega),if_neg (by omega)]
     refine Ai.normal ⟨k+1,⟨by omega,?_⟩,by omega,⟨by omega,?_,?_⟩⟩
     ·first|rfl|(refine ez ?_ o;symm;(conv=>lhs;rw[Oi]);rw[if_pos b,if_neg (by omega),if_neg (by omega),if_neg (by omega)])
     ·exact Du
     ·exact Ec)
 ·rw[Oi,if_neg b]
  repeat' (first|refine go1 ?_|(apply Ad.Ac;rfl)|(intro _;try(exfalso;omega)))
  all_goals first|(exfalso;omega)|(refine Done.rt rfl rfl ⟨?_,rfl,rfl⟩;try rfl)
end Go.Proofs.YtnjkoebfgcbbdaaGreatDoor
