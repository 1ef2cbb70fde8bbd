/-
  Texts of a proof, merged (OrD, OrE, VmG, OrN, TraE, PieA, PieP, Vm31, Vm36, Vm32, Vm33, Vm34, Vm37, Vm38, Vm40, Vm41). Conditions: in each statement.
-/
import Derived.Lib.SlicesCompact
import Derived.Test.YtnjkoebfgcbbdaaGreatDoorKPj
set_option linter.unusedSimpArgs false
set_option linter.unusedVariables false
set_option linter.unusedSectionVars false
set_option maxRecDepth 100000
set_option maxHeartbeats 8000000
abbrev bk:=@List.map_append
abbrev bx:=@Decidable.byContradiction
abbrev bR:=@List.mem_iff_getElem
abbrev ep:=@List.pairwise_iff_getElem
abbrev fX:=@List.map_singleton
abbrev gn:=@List.mem_take_iff_getElem
abbrev hX:=@List.pairwise_append
namespace Go.Proofs.YtnjkoebfgcbbdaaGreatDoor
open Go Go.Am Go.Vm
attribute [local irreducible] Aa Aj Ag Ad AL Ak Bd BL Bl Ai Vm.Done BD AO
attribute [local irreducible] CJ Bf
theorem b6x{L:Vm.Frame}{H:Vm.Heap}{nx:Nat}{Q:PV→Vm.Heap→Nat→Prop}{dst:Option Tmp}{ty:TypeId}{pos:String}{af:Array Edge}{gd:Option (Nat×Bool)}{f:Operand}{args:Array Operand}{o:Array TypeId}{a cs xs:List PV}{c:Code}
 (j:AU env.Γ L f=some (.clo 158 a cs)) (k:evs env.Γ L args.toList=some xs) (d:Tryz.f158.body=some c) (g:(a++xs++cs).length≤Tryz.f158.ntmps)
 (h:Ad env nx c (CG 0 (a++xs++cs)) H nx (AO env.P Tryz.f158.results.toList Q)):Aa env true ⟨dst,.call { callee:=.value f,args:=args,argTypes:=o },ty,pos,af,gd⟩ L H nx Q:=by
 have e:(match Tryz.f158.body with|some c=>Ir env.G Tryz.f158 c|none=>false)=true:=by kernel_rfl
 rw[d] at e;exact Aa.inline rfl j k (Af (by decide)) Tryz.func158 d e g h
theorem b5c{L:Vm.Frame}{H:Vm.Heap}{nx:Nat}{Q:PV→Vm.Heap→Nat→Prop}{dst:Option Tmp}{ty:TypeId}{pos:String}{af:Array Edge}{gd:Option (Nat×Bool)}{f:Operand}{args:Array Operand}{o:Array TypeId}{a cs xs:List PV}{c:Code}
 (j:AU env.Γ L f=some (.clo 183 a cs)) (k:evs env.Γ L args.toList=some xs) (d:Tryz.f183.body=some c) (g:(a++xs++cs).length≤Tryz.f183.ntmps)
 (h:Ad env nx c (CG 0 (a++xs++cs)) H nx (AO env.P Tryz.f183.results.toList Q)):Aa env true ⟨dst,.call { callee:=.value f,args:=args,argTypes:=o },ty,pos,af,gd⟩ L H nx Q:=by
 have e:(match Tryz.f183.body with|some c=>Ir env.G Tryz.f183 c|none=>false)=true:=by kernel_rfl
 rw[d] at e;exact Aa.inline rfl j k (Af (by decide)) Tryz.func183 d e g h
theorem a2j{L:Vm.Frame}{H:Vm.Heap}{nx:Nat}{Q:PV→Vm.Heap→Nat→Prop}{dst:Option Tmp}{ty:TypeId}{pos:String}{af:Array Edge}{gd:Option (Nat×Bool)}{f:Operand}{args:Array Operand}{o:Array TypeId}{a cs xs:List PV}{c:Code}
 (j:AU env.Γ L f=some (.clo 159 a cs)) (k:evs env.Γ L args.toList=some xs) (d:Tryz.f159.body=some c) (g:(a++xs++cs).length≤Tryz.f159.ntmps)
 (h:Ad env nx c (CG 0 (a++xs++cs)) H nx (AO env.P Tryz.f159.results.toList Q)):Aa env true ⟨dst,.call { callee:=.value f,args:=args,argTypes:=o },ty,pos,af,gd⟩ L H nx Q:=by
 have e:(match Tryz.f159.body with|some c=>Ir env.G Tryz.f159 c|none=>false)=true:=by kernel_rfl
 rw[d] at e;exact Aa.inline rfl j k (Af (by decide)) Tryz.func159 d e g h
theorem ng(ks:List pY)(l:List qc)(I:ks.length<1000000)(M:l.length<1000000)(y:∀i,i<l.length→(gi l i).name.length<1000000):Ak env 121 [.lst 115 (cells ks) ks.length,.lst 236 (cells l) l.length] (.p (.int .i64 (EF ks l))):=by
 unfold EF;refine Ak.enter (Af (by decide)) Tryz.func121 rfl (by kernel_rfl) (by simp[Tryz.ntmps121]) ?_;by_cases G:ks.length>8∨l.length>40
 ·rw[if_pos G]
  repeat' (first|refine JD ?_|(apply Aj.guard;rfl;rfl)|(apply Ad.AV;rfl)|(apply Ad.Ac;rfl)|(intro _;try(exfalso;omega)))
  all_goals first|(exfalso;omega)|(refine Done.rt rfl rfl ⟨?_,rfl,rfl⟩;try rfl)
 rw[if_neg G]
 repeat' (first|refine JD ?_|(apply Aj.guard;rfl;rfl)|(apply Ad.Ac;rfl)|(intro _;try(exfalso;omega)))
 all_goals try(exfalso;omega)
 refine Ad.DR (fun k:Nat=>[(0,lst 115 ks),(1,lst 236 l),(17,lst 115 ks),(18,.p (.int .i64 (ks.length:Int))),(19,.p (.int .i64 (k:Int)))]) (fun _=>[]) 0 (fun k=>k≤ks.length∧TT ks k=TT ks 0) (fun k=>ks.length-k) 0 (by omega) ⟨by omega,rfl⟩ ⟨by omega,?_,BF.nil⟩ ?_
 ·exact Du
 rintro k ⟨J,o⟩;by_cases c:k<ks.length
 ·have A:=U7 (gi ks k).lo (gi ks k).hi
  by_cases d:Xg (gi ks k).lo (gi ks k).hi=0
  ·rw[d] at A
   repeat' (first|(apply Aa.fn;rfl;rfl;exact A;intro _;rfl)|(apply Aa.Ap;rfl;rfl;rfl;omega;rfl)|refine go2 ?_|(apply Aa.int;rfl;rfl;rfl)|(apply Ad.Ac;rfl)|(apply Ad.cond_false;rfl)|(intro _;try(exfalso;omega)))
   all_goals try(exfalso;omega)
   all_goals try contradiction
   refine Ai.normal ⟨k+1,⟨by omega,?_⟩,by omega,⟨by omega,?_,BF.nil⟩⟩
   ·first|rfl|(refine ez ?_ o;symm;(conv=>lhs;rw[TT]);rw[if_pos c,if_neg (fun h=>h d)])
   ·exact Du
  ·have e:TT ks 0=23:=by rw[← o,TT,if_pos c,if_pos d]
   rw[if_pos (by rw[e];decide),e]
   repeat' (first|(apply Aa.fn;rfl;rfl;exact A;intro _;rfl)|(apply Aa.Ap;rfl;rfl;rfl;omega;rfl)|refine go2 ?_|(apply Aa.int;rfl;rfl;rfl)|(apply Ad.Ac;rfl)|(apply Ad.Au;rfl)|(intro _;try(exfalso;omega)))
   all_goals first|(exfalso;omega)|contradiction|(refine Done.rt rfl rfl ⟨?_,rfl,rfl⟩;try rfl)
 obtain rfl:k=ks.length:=by omega
 have e:TT ks 0=0:=by rw[← o,TT,if_neg (by omega)]
 rw[if_neg (fun h=>h e)]
 repeat' (first|refine go1 ?_|(apply Ad.Ac;rfl)|(intro _;try(exfalso;omega)))
 all_goals try(exfalso;omega)
 refine Ad.DR (fun k:Nat=>[(0,lst 115 ks),(1,lst 236 l),(27,lst 236 l),(28,.p (.int .i64 (l.length:Int))),(29,.p (.int .i64 (k:Int)))]) (fun _=>[]) 0 (fun k=>k≤l.length∧SY ks.length l k=SY ks.length l 0) (fun k=>l.length-k) 0 (by omega) ⟨by omega,rfl⟩ ⟨by omega,?_,BF.nil⟩ ?_
 ·exact Du
 rintro k ⟨J,o⟩;rw[← o];by_cases c:k<l.length
 case neg =>
  rw[SY,if_neg c]
  repeat' (first|refine go1 ?_|(apply Ad.Ac;rfl)|(intro _;try(exfalso;omega)))
  all_goals first|(exfalso;omega)|(refine Done.rt rfl rfl ⟨?_,rfl,rfl⟩;try rfl)
 rw[SY,if_pos c];have x:=IV (gi l k).name (by have:=y k c;omega);by_cases d:DT (gi l k).name
 case neg =>
  rw[if_pos d];rw[decide_eq_false d] at x
  repeat' (first|(apply Aa.fn;rfl;rfl;exact x;intro _;rfl)|(apply Aa.Ap;rfl;rfl;rfl;omega;rfl)|refine go2 ?_|apply Ad.Jh|(apply Aa.int;rfl;rfl;rfl)|(apply Ad.Ac;rfl)|(apply Ad.cond_true;rfl)|(intro _;try(exfalso;omega)))
  all_goals first|(exfalso;omega)|contradiction|(refine Done.rt rfl rfl ⟨?_,rfl,rfl⟩;try rfl)
 rw[if_neg (fun h=>h d)];rw[decide_eq_true d] at x;have B:(gi l k).name∈(l.take k).map qc.name↔∃j,j<k∧(gi l j).name=(gi l k).name:=by
  rw[ba];constructor
  ·rintro⟨a,K,e⟩
   obtain⟨j,d,q⟩:=fP.1 K;rw[ar] at d;rw[Zg (by omega)] at q;exact⟨j,by omega,by rw[q,e]⟩
  ·rintro⟨j,C,e⟩
   exact⟨gi l j,fP.2 ⟨j,by rw[ar];omega,Zg C⟩,e⟩
 repeat' (first|(apply Aa.fn;rfl;rfl;exact x;intro _;rfl)|(apply b6x;rfl;rfl;rfl;exact le_dec rfl)|(apply b5c;rfl;rfl;rfl;exact le_dec rfl)|(apply Aa.makeFunc;rfl;rfl)|(apply Aa.Ap;rfl;rfl;rfl;omega;rfl)|refine go2 ?_|apply Ad.Jh|(apply Aa.sliceTo;rfl;rfl;rfl;rfl;rfl;rfl;omega)|(apply Aa.int;rfl;rfl;rfl)|(apply Ad.Ac;rfl)|(apply Ad.cond_false;rfl)|(intro _;try(exfalso;omega)))
 all_goals try(exfalso;omega)
 all_goals try contradiction
 refine Ad.DR (fun j:Nat=>[(0,.p (.lst 236 (cells (l.take k)) k)),(1,.clo 159 [] [.ref 0 0]),(7,.p (.int .i64 (k:Int))),(8,.p (.int .i64 (j:Int)))]) (fun _=>[(0,.box 236 ((Enc.enc (gi l k)).map .p))]) 1 (fun j=>j≤k∧∀i,i<j→(gi l i).name≠(gi l k).name) (fun j=>k-j) 0 (by omega) ⟨by omega,fun i hi=>by omega⟩ ⟨by omega,?_,?_⟩ ?_
 ·exact Du
 ·exact Ec
 rintro j ⟨C,f⟩;by_cases s:j<k
 ·have z:gi (l.take k) j=gi l j:=Zg s
  have r:(l.take k).length=k:=by rw[ar];omega
  generalize hg:decide ((gi l j).name=(gi l k).name)=g at *;have u:decide ((gi (l.take k) j).name=(gi l k).name)=g:=by rw[z];exact hg
  cases g
  ·repeat' (first|(apply a2j;rfl;rfl;rfl;exact le_dec rfl)|(apply Aa.c6t;rfl;rfl;exact u)|(apply Aa.Ap (l:=l.take k) (i:=j);rfl;rfl;rfl;omega;exact r)|refine go2 ?_|(apply AO.ret;rfl)|(apply Aa.int;rfl;rfl;rfl)|(apply Ad.Ac;rfl)|(apply Ad.cond_false;rfl)|(intro _;try(exfalso;omega)))
   all_goals try(exfalso;omega)
   refine Ai.normal ⟨j+1,⟨by omega,fun i hi=>?_⟩,by omega,⟨by omega,?_,?_⟩⟩
   ·rcases aq i j with h|h
    ·exact f i h
    ·obtain rfl:i=j:=by omega
     exact of_decide_eq_false hg
   ·exact Du
   ·exact Ec
  ·rw[if_pos (B.2 ⟨j,s,of_decide_eq_true hg⟩)]
   repeat' (first|(apply a2j;rfl;rfl;rfl;exact le_dec rfl)|(apply Aa.c6t;rfl;rfl;exact u)|(apply Aa.Ap (l:=l.take k) (i:=j);rfl;rfl;rfl;omega;exact r)|refine go2 ?_|(apply AO.ret;rfl)|(apply Aa.int;rfl;rfl;rfl)|(apply Ad.Ac;rfl)|(apply Ad.cond_true;rfl)|(intro _;try(exfalso;omega)))
   all_goals first|(exfalso;omega)|contradiction|(refine Done.rt rfl rfl ⟨?_,rfl,rfl⟩;try rfl)
 obtain rfl:j=k:=by omega
 rw[if_neg (fun h=>by obtain⟨i,d,q⟩:=B.1 h;exact f i d q)]
 repeat' (first|refine JD ?_|(apply AO.ret;rfl)|(apply Aj.guard;rfl;rfl)|(apply Ad.Ac;rfl)|(apply Ad.cond_true;rfl)|(apply Ad.cond_false;rfl)|(apply Ad.Au;rfl)|(intro _;try(exfalso;omega)))
 all_goals try(exfalso;omega)
 all_goals try contradiction
 all_goals first
  |(rw[if_pos (by omega)];(refine Done.rt rfl rfl ⟨?_,rfl,rfl⟩;try rfl);done)
  |(rw[if_neg (by omega),if_pos (by omega)];(refine Done.rt rfl rfl ⟨?_,rfl,rfl⟩;try rfl);done)
  |(rw[if_neg (by omega),if_neg (by omega),if_pos (by omega)];(refine Done.rt rfl rfl ⟨?_,rfl,rfl⟩;try rfl);done)
  |(rw[if_neg (by omega),if_neg (by omega),if_neg (by omega)]
    refine Ai.normal ⟨j+1,⟨by omega,?_⟩,by omega,⟨by omega,?_,BF.nil⟩⟩
    ·first|rfl|(refine ez ?_ o;symm;(conv=>lhs;rw[SY]);rw[if_pos c,if_neg (fun h=>h d),if_neg (fun h=>by obtain⟨i,d,q⟩:=B.1 h;exact f i d q),if_neg (by omega),if_neg (by omega),if_neg (by omega)])
    ·exact Du)
attribute [local irreducible] Eb DW EF
theorem Ul{α:Type}[Inhabited α](f:α→List UInt8){l:List α}{k:Nat}(a:k<l.length):(l.take (k+1)).map f=(l.take k).map f++[f (gi l k)]:=by
 rw[Eh a,bk];rfl
theorem TJ{L:Vm.Frame}{H:Vm.Heap}{nx:Nat}{Q:PV→Vm.Heap→Nat→Prop}{dst:Option Tmp}{ty:TypeId}{pos:String}{af:Array Edge}{gd:Option (Nat×Bool)}{f:Operand}{args:Array Operand}{o:Array TypeId}{a cs xs:List PV}{c:Code}
 (j:AU env.Γ L f=some (.clo 119 a cs)) (k:evs env.Γ L args.toList=some xs) (d:Tryz.f119.body=some c) (g:(a++xs++cs).length≤Tryz.f119.ntmps)
 (h:Ad env nx c (CG 0 (a++xs++cs)) H nx (AO env.P Tryz.f119.results.toList Q)):Aa env true ⟨dst,.call { callee:=.value f,args:=args,argTypes:=o },ty,pos,af,gd⟩ L H nx Q:=by
 have e:(match Tryz.f119.body with|some c=>Ir env.G Tryz.f119 c|none=>false)=true:=by kernel_rfl
 rw[d] at e;exact Aa.inline rfl j k (Af (by decide)) Tryz.func119 d e g h
theorem gW(o:FQ)(d:og)(j:Tm o)(s:b8j d):Ak env 120 [.agg (Enc.enc o),.agg (Enc.enc d)] (.p (.int .i64 (DW o.ranks d))):=by
 have f:=U7 d.lo d.hi;obtain⟨z,y,u⟩:=s;unfold DW;refine Ak.enter (Af (by decide)) Tryz.func120 rfl (by kernel_rfl) (by simp[Tryz.ntmps120]) ?_;by_cases r:Xg d.lo d.hi=0
 case neg =>
  rw[if_pos r]
  repeat' (first|(apply Aa.fn;rfl;rfl;exact f;intro _;rfl)|refine go2 ?_|(apply Aa.int;rfl;rfl;rfl)|(apply Ad.Ac;rfl)|(intro _;try(exfalso;omega)))
  all_goals first|(exfalso;omega)|(refine Done.rt rfl rfl ⟨?_,rfl,rfl⟩;try rfl)
 rw[r] at f ⊢;rw[if_neg (by decide)]
 repeat' (first|(apply Aa.fn;rfl;rfl;exact f;intro _;rfl)|(apply Aa.makeMap)|refine go2 ?_|(apply Aa.int;rfl;rfl;rfl)|(apply Ad.Ah;rfl)|(apply Ad.Ac;rfl)|(intro _;try(exfalso;omega)))
 all_goals try contradiction
 ·rw[if_pos (by omega)];(refine Done.rt rfl rfl ⟨?_,rfl,rfl⟩;try rfl)
 rw[if_neg (by omega)];refine Ad.DR (fun k:Nat=>[(2,.ref 0 0),(3,.ref 1 0),(6,.mref 2),(23,lst 229 d.stops),(24,.p (.int .i64 (d.stops.length:Int))),(25,.p (.int .i64 (k:Int)))]) (fun k=>[(2,.map (Ov ((d.stops.take k).map Stp.name))),(1,.box 118 ((Enc.enc d).map .p)),(0,.box 27 ((Enc.enc o).map .p))]) 3 (fun k=>k≤d.stops.length∧TB o.ranks d.lo d.hi d.stops k=TB o.ranks d.lo d.hi d.stops 0) (fun k=>d.stops.length-k) 0 (by omega) ⟨by omega,rfl⟩ ⟨by omega,?_,?_⟩ ?_
 ·exact Du
 ·exact Ec
 rintro k ⟨x,q⟩;rw[← q];by_cases a:k<d.stops.length
 case neg =>
  rw[TB,if_neg a]
  repeat' (first|refine go1 ?_|(apply Ad.Ac;rfl)|(intro _;try(exfalso;omega)))
  all_goals first|(exfalso;omega)|(refine Done.rt rfl rfl ⟨?_,rfl,rfl⟩;try rfl)
 rw[TB,if_pos a];have c:=a5n o.ranks d.lo d.hi (gi d.stops k) j.ranks j.rk (u k a);by_cases g:Eb o.ranks d.lo d.hi (gi d.stops k)=0
 case neg =>
  rw[if_pos g]
  repeat' (first|(apply Aa.fn;rfl;rfl;exact c;intro _;rfl)|(apply Aa.Ap;rfl;rfl;rfl;omega;rfl)|refine go2 ?_|(apply Aa.int;rfl;rfl;rfl)|(apply Aa.build;rfl;rfl;rfl;rfl;rfl)|(apply Ad.Ac;rfl)|(intro _;try(exfalso;omega)))
  all_goals first|(exfalso;omega)|contradiction|(refine Done.rt rfl rfl ⟨?_,rfl,rfl⟩;try rfl)
 rw[g] at c ⊢;rw[if_neg (by decide)];by_cases e:(gi d.stops k).name∈(d.stops.take k).map Stp.name
 ·rw[if_pos e]
  repeat' (first|(apply Aa.fn;rfl;rfl;exact c;intro _;rfl)|(apply TJ;rfl;rfl;rfl;exact le_dec rfl)|(apply Aa.Ap;rfl;rfl;rfl;omega;rfl)|refine go2 ?_|(apply AO.ret;rfl)|(apply Aa.JH;rfl;rfl;rfl;rfl;rfl;rfl)|(apply Aa.int;rfl;rfl;rfl)|(apply Aa.build;rfl;rfl;rfl;rfl;rfl)|(apply Ad.Ah;rfl)|(apply Ad.Ac;rfl)|(apply Ad.cond_true;rfl)|(intro _;try(exfalso;omega)))
  all_goals first|(exfalso;omega)|contradiction|(refine Done.rt rfl rfl ⟨?_,rfl,rfl⟩;try rfl)
 ·rw[if_neg e]
  repeat' (first|(apply Aa.fn;rfl;rfl;exact c;intro _;rfl)|(apply TJ;rfl;rfl;rfl;exact le_dec rfl)|(apply Aa.lI;rfl;rfl;rfl;rfl;rfl;rfl;exact e)|(apply Aa.Ap;rfl;rfl;rfl;omega;rfl)|refine go2 ?_|(apply AO.ret;rfl)|(apply Aa.JH;rfl;rfl;rfl;rfl;rfl;rfl)|(apply Aa.int;rfl;rfl;rfl)|(apply Aa.build;rfl;rfl;rfl;rfl;rfl)|(apply Ad.Ah;rfl)|(apply Ad.Ac;rfl)|(apply Ad.cond_true;rfl)|(apply Ad.cond_false;rfl)|(intro _;try(exfalso;omega)))
  all_goals try(exfalso;omega)
  all_goals try contradiction
  refine Ai.normal ⟨k+1,⟨by omega,?_⟩,by omega,⟨by omega,?_,?_⟩⟩
  ·first|rfl|(refine ez ?_ q;symm;(conv=>lhs;rw[TB]);rw[if_pos a,if_neg (fun h=>h g),if_neg e])
  ·exact Du
  ·rw[Ul Stp.name a];exact Ec
theorem YA(o:FQ)(r:Tm o):Ak env 78 [.agg (Enc.enc o)] (.p (.int .i64 (VI o))):=by
 have z:=IV o.name (by have:=r.name;omega);have b1:=r.ranks;have b2:=r.Ae;unfold VI;refine Ak.enter (Af (by decide)) Tryz.func78 rfl (by kernel_rfl) (by simp[Tryz.ntmps78]) ?_;by_cases C:DT o.name
 case neg =>
  rw[if_pos C];rw[decide_eq_false C] at z
  repeat' (first|(apply Aa.fn;rfl;rfl;exact z;intro _;rfl)|refine go2 ?_|(apply Ad.cond_true;rfl))
  all_goals first|(exfalso;omega)|contradiction|(refine Done.rt rfl rfl ⟨?_,rfl,rfl⟩;try rfl)
 rw[if_neg (fun h=>h C)];rw[decide_eq_true C] at z
 repeat' (first|(apply Aa.fn;rfl;rfl;exact z;intro _;rfl)|(apply Aa.makeMap)|refine go2 ?_|(apply Aa.int;rfl;rfl;rfl)|(apply Ad.cond_false;rfl)|(apply Ad.Au;rfl)|(intro _;try(exfalso;omega)))
 all_goals try contradiction
 ·rw[if_pos (by omega)];(refine Done.rt rfl rfl ⟨?_,rfl,rfl⟩;try rfl)
 rw[if_neg (by omega)];refine Ad.DR (fun k:Nat=>[(1,.ref 0 0),(3,.mref 1),(25,lst 113 o.ranks),(26,.p (.int .i64 (o.ranks.length:Int))),(27,.p (.int .i64 (k:Int)))]) (fun k=>[(1,.map (Ov ((o.ranks.take k).map H7.name))),(0,.box 27 ((Enc.enc o).map .p))]) 2 (fun k=>k≤o.ranks.length∧QY o.ranks k=QY o.ranks 0) (fun k=>o.ranks.length-k) 0 (by omega) ⟨by omega,rfl⟩ ⟨by omega,?_,?_⟩ ?_
 ·exact Du
 ·exact Ec
 rintro k ⟨M,j⟩;by_cases c:k<o.ranks.length
 ·have s:=(r.rk k c).len
  have A:=Yx (gi o.ranks k) s.1 s.2.1 s.2.2;by_cases g:CJ (gi o.ranks k)=0
  case neg =>
   have e:QY o.ranks 0=CJ (gi o.ranks k):=by rw[← j,QY,if_pos c,if_pos g]
   rw[e,if_pos g]
   repeat' (first|(apply Aa.fn;rfl;rfl;exact A;intro _;rfl)|(apply Aa.Ap;rfl;rfl;rfl;omega;rfl)|refine go2 ?_|(apply Aa.int;rfl;rfl;rfl)|(apply Ad.Ac;rfl)|(intro _;try(exfalso;omega)))
   all_goals first|(exfalso;omega)|contradiction|(refine Done.rt rfl rfl ⟨?_,rfl,rfl⟩;try rfl)
  rw[g] at A;by_cases q:(gi o.ranks k).name∈(o.ranks.take k).map H7.name
  ·have e:QY o.ranks 0=9:=by rw[← j,QY,if_pos c,if_neg (fun h=>h g),if_pos q]
   rw[e,if_pos (by decide)]
   repeat' (first|(apply Aa.fn;rfl;rfl;exact A;intro _;rfl)|(apply TJ;rfl;rfl;rfl;exact le_dec rfl)|(apply Aa.Ap;rfl;rfl;rfl;omega;rfl)|refine go2 ?_|(apply AO.ret;rfl)|(apply Aa.JH;rfl;rfl;rfl;rfl;rfl;rfl)|(apply Aa.int;rfl;rfl;rfl)|(apply Ad.Ah;rfl)|(apply Ad.Ac;rfl)|(apply Ad.cond_true;rfl)|(intro _;try(exfalso;omega)))
   all_goals first|(exfalso;omega)|contradiction|(refine Done.rt rfl rfl ⟨?_,rfl,rfl⟩;try rfl)
  ·repeat' (first|(apply Aa.fn;rfl;rfl;exact A;intro _;rfl)|(apply TJ;rfl;rfl;rfl;exact le_dec rfl)|(apply Aa.lI;rfl;rfl;rfl;rfl;rfl;rfl;exact q)|(apply Aa.Ap;rfl;rfl;rfl;omega;rfl)|refine go2 ?_|(apply AO.ret;rfl)|(apply Aa.JH;rfl;rfl;rfl;rfl;rfl;rfl)|(apply Aa.int;rfl;rfl;rfl)|(apply Ad.Ah;rfl)|(apply Ad.Ac;rfl)|(apply Ad.cond_true;rfl)|(apply Ad.cond_false;rfl)|(intro _;try(exfalso;omega)))
   all_goals try(exfalso;omega)
   all_goals try contradiction
   refine Ai.normal ⟨k+1,⟨by omega,?_⟩,by omega,⟨by omega,?_,?_⟩⟩
   ·first|rfl|(refine ez ?_ j;symm;(conv=>lhs;rw[QY]);rw[if_pos c,if_neg (fun h=>h g),if_neg q])
   ·exact Du
   ·rw[Ul H7.name c];exact Ec
 obtain rfl:k=o.ranks.length:=by omega
 have e:QY o.ranks 0=0:=by rw[← j,QY,if_neg (by omega)]
 rw[if_neg (fun h=>h e)]
 repeat' (first|(apply Aa.makeMap)|refine go2 ?_|(apply Aa.int;rfl;rfl;rfl)|(apply Ad.Ac;rfl)|(apply Ad.Au;rfl)|(intro _;try(exfalso;omega)))
 all_goals try(exfalso;omega)
 ·rw[if_pos (by omega)];(refine Done.rt rfl rfl ⟨?_,rfl,rfl⟩;try rfl)
 ·rw[if_neg (by omega),if_pos (by omega)];(refine Done.rt rfl rfl ⟨?_,rfl,rfl⟩;try rfl)
 rw[if_neg (by omega),if_neg (by omega)];refine Ad.ghost (Aq.adopt 8 115 rfl) ?_;refine Ad.DR (fun k:Nat=>[(1,.ref 0 0),(3,.mref 2),(8,.vec 3 ((o.Ae.take k).map fun d=>(⟨d.lo,d.hi⟩:pY)).length 0 ((o.Ae.take k).map fun d=>(⟨d.lo,d.hi⟩:pY)).length),(56,lst 118 o.Ae),(57,.p (.int .i64 (o.Ae.length:Int))),(58,.p (.int .i64 (k:Int)))]) (fun k=>[(3,.vec 115 (cells ((o.Ae.take k).map fun d=>(⟨d.lo,d.hi⟩:pY))) ((o.Ae.take k).map fun d=>(⟨d.lo,d.hi⟩:pY)).length true),(2,.map (Ov ((o.Ae.take k).map og.name))),(0,.box 27 ((Enc.enc o).map .p))]) 4 (fun k=>k≤o.Ae.length∧GI o.ranks o.Ae k=GI o.ranks o.Ae 0) (fun k=>o.Ae.length-k) 0 (by omega) ⟨by omega,rfl⟩ ⟨by omega,?_,?_⟩ ?_
 ·exact Du
 ·exact Ec
 rintro k ⟨M,j⟩;have I:((o.Ae.take k).map fun d=>(⟨d.lo,d.hi⟩:pY)).length=k:=by rw[aM,ar];omega
 by_cases c:k<o.Ae.length
 ·have y:=r.dv k c
  have f:=IV (gi o.Ae k).name (by have:=y.name;omega);have u:=gW o (gi o.Ae k) r y;by_cases g:DT (gi o.Ae k).name
  case neg =>
   have x:GI o.ranks o.Ae 0=8:=by rw[← j,GI,if_pos c,if_pos g]
   rw[x,if_pos (by decide)];rw[decide_eq_false g] at f
   repeat' (first|(apply Aa.fn;rfl;rfl;exact f;intro _;rfl)|(apply Aa.Ap;rfl;rfl;rfl;omega;rfl)|refine go2 ?_|(apply Aa.int;rfl;rfl;rfl)|(apply Ad.AV;rfl)|(apply Ad.Ac;rfl)|(intro _;try(exfalso;omega)))
   all_goals first|(exfalso;omega)|contradiction|(refine Done.rt rfl rfl ⟨?_,rfl,rfl⟩;try rfl)
  rw[decide_eq_true g] at f;by_cases q:(gi o.Ae k).name∈(o.Ae.take k).map og.name
  ·have x:GI o.ranks o.Ae 0=9:=by rw[← j,GI,if_pos c,if_neg (fun h=>h g),if_pos q]
   rw[x,if_pos (by decide)]
   repeat' (first|(apply Aa.fn;rfl;rfl;exact f;intro _;rfl)|(apply TJ;rfl;rfl;rfl;exact le_dec rfl)|(apply Aa.Ap;rfl;rfl;rfl;omega;rfl)|refine go2 ?_|(apply AO.ret;rfl)|(apply Aa.JH;rfl;rfl;rfl;rfl;rfl;rfl)|(apply Aa.int;rfl;rfl;rfl)|(apply Ad.AV;rfl)|(apply Ad.Ah;rfl)|(apply Ad.Ac;rfl)|(intro _;try(exfalso;omega)))
   all_goals first|(exfalso;omega)|contradiction|(refine Done.rt rfl rfl ⟨?_,rfl,rfl⟩;try rfl)
  by_cases B:DW o.ranks (gi o.Ae k)=0
  case neg =>
   have x:GI o.ranks o.Ae 0=DW o.ranks (gi o.Ae k):=by rw[← j,GI,if_pos c,if_neg (fun h=>h g),if_neg q,if_pos B]
   rw[x,if_pos B]
   repeat' (first|(apply Aa.fn;rfl;rfl;exact f;intro _;rfl)|(apply Aa.fn;rfl;rfl;exact u;intro _;rfl)|(apply TJ;rfl;rfl;rfl;exact le_dec rfl)|(apply Aa.lI;rfl;rfl;rfl;rfl;rfl;rfl;exact q)|(apply Aa.Ap;rfl;rfl;rfl;omega;rfl)|refine go2 ?_|(apply AO.ret;rfl)|(apply Aa.JH;rfl;rfl;rfl;rfl;rfl;rfl)|(apply Aa.int;rfl;rfl;rfl)|(apply Ad.AV;rfl)|(apply Ad.Ah;rfl)|(apply Ad.Ac;rfl)|(intro _;try(exfalso;omega)))
   all_goals first|(exfalso;omega)|contradiction|(refine Done.rt rfl rfl ⟨?_,rfl,rfl⟩;try rfl)
  rw[B] at u;have K:((o.Ae.take (k+1)).map fun d=>(⟨d.lo,d.hi⟩:pY))=((o.Ae.take k).map fun d=>(⟨d.lo,d.hi⟩:pY))++[⟨(gi o.Ae k).lo,(gi o.Ae k).hi⟩]:=by rw[Eh c,bk];rfl
  have J:((o.Ae.take (k+1)).map fun d=>(⟨d.lo,d.hi⟩:pY)).length=((o.Ae.take k).map fun d=>(⟨d.lo,d.hi⟩:pY)).length+1:=by rw[K,aD];rfl
  repeat' (first|(apply Aa.fn;rfl;rfl;exact f;intro _;rfl)|(apply Aa.fn;rfl;rfl;exact u;intro _;rfl)|(apply Aa.Dn (a:=(⟨(gi o.Ae k).lo,(gi o.Ae k).hi⟩:pY));rfl;rfl;rfl;rfl;rfl;rfl;rfl;rfl;(intro _ h;cases h);rfl;rfl;rfl;decide;decide;(first|omega|(simp only[List.length_take,List.length_drop,List.length_append,List.length_singleton,List.length_cons,List.length_nil]<;>omega)))|(apply TJ;rfl;rfl;rfl;exact le_dec rfl)|(apply Aa.lI;rfl;rfl;rfl;rfl;rfl;rfl;exact q)|(apply Aa.Ap;rfl;rfl;rfl;omega;rfl)|refine go2 ?_|(apply AO.ret;rfl)|(apply Aa.JH;rfl;rfl;rfl;rfl;rfl;rfl)|(apply Aa.int;rfl;rfl;rfl)|(apply Aa.buildSlice;rfl;rfl;rfl;decide;rfl;rfl;rfl)|(apply Ad.AV;rfl)|(apply Ad.Ah;rfl)|(apply Ad.Ac;rfl)|(intro _;try(exfalso;omega)))
  all_goals try(exfalso;omega)
  all_goals try contradiction
  refine Ai.normal ⟨k+1,⟨by omega,?_⟩,by omega,⟨by omega,?_,?_⟩⟩
  ·first|rfl|(refine ez ?_ j;symm;(conv=>lhs;rw[GI]);rw[if_pos c,if_neg (fun h=>h g),if_neg q,if_neg (fun h=>h B)])
  ·rw[J];exact Du
  ·rw[J,K,Ul og.name c];exact Ec
 obtain rfl:k=o.Ae.length:=by omega
 have x:GI o.ranks o.Ae 0=0:=by rw[← j,GI,if_neg (by omega)]
 rw[if_neg (fun h=>h x)];have N:o.Ae.take o.Ae.length=o.Ae:=di (ab _);have G:=ng (o.Ae.map fun d=>(⟨d.lo,d.hi⟩:pY)) o.I8 (by rw[aM];exact b2) r.I8 r.cp;rw[N]
 repeat' (first|(refine Ad.at 35 ?_;refine Ad.ghost (Aq.freeze 8 rfl rfl) ?_;first|apply Ad.Bo|apply Ad.Ce)|apply Ad.Bo|(apply Aa.fn;rfl;rfl;exact G;intro _;rfl)|refine VU ?_|(apply Aa.int;rfl;rfl;rfl)|(apply Ad.Ac;rfl)|(intro _;try(exfalso;omega)))
 all_goals first|(exfalso;omega)|(refine Done.rt rfl rfl ⟨?_,rfl,rfl⟩;try rfl)
end Go.Proofs.YtnjkoebfgcbbdaaGreatDoor
namespace Go.Vm
section
open Go.Am
variable {E:Env}{bn:Nat}{L:Frame}{H:Heap}{nx:Nat}{Q:BH→Frame→Heap→Nat→Prop}{b:Code}
theorem Ad.GU(n:Nat)(L0:Frame)(H0:Heap)(c:Nat→Frame→Frame)(d:Nat→Heap→Heap)(CP:Nat)(o:bn≤CP)(j:CP≤nx)(r:F5 CP (c 0 L0) L)(p:BF CP (d 0 H0) H)
 (g:∀k,k<n→Ad E bn b (c k L0) (d k H0) CP (Ai (fun f H' a=>CP≤a∧F5 CP (c (k+1) L0) f∧BF CP (d (k+1) H0) H') Q))
 (u:Ad E bn b (c n L0) (d n H0) CP (Ai (fun _ _ _=>False) Q)):Ad E bn (.loop b) L H nx Q :=
 Ad.DR (fun k=>c k L0) (fun k=>d k H0) CP (fun k=>k≤n) (fun k=>n-k) 0 o (an _) ⟨j,r,p⟩ fun k s=>by
  rcases aq k n with h|h
  ·refine(g k h).mono fun e f H' a q=>?_
   cases e with
   |normal=>exact⟨k+1,h,by omega,⟨q.1,q.2.1,q.2.2⟩⟩
   |ret=>exact q
   |exit i=>exact q
  grind
theorem Ad.H8(n:Nat)(a:Nat→Prop)(L0:Frame)(H0:Heap)(d:Nat→Frame→Frame)(f:Nat→Heap→Heap)(CP:Nat)(s:bn≤CP)(p:CP≤nx)(x:F5 CP (d 0 L0) L)(u:BF CP (f 0 H0) H)(y:a 0)
 (o:∀k,k<n→a k→Ad E bn b (d k L0) (f k H0) CP (Ai (fun j H' c=>a (k+1)∧CP≤c∧F5 CP (d (k+1) L0) j∧BF CP (f (k+1) H0) H') Q))
 (z:a n→Ad E bn b (d n L0) (f n H0) CP (Ai (fun _ _ _=>False) Q)):Ad E bn (.loop b) L H nx Q :=
 Ad.DR (fun k=>d k L0) (fun k=>f k H0) CP (fun k=>k≤n∧a k) (fun k=>n-k) 0 s ⟨an _,y⟩ ⟨p,x,u⟩ fun k g=>by
  obtain⟨g,r⟩:=g;rcases aq k n with h|h
  ·refine(o k h r).mono fun e j H' c q=>?_
   cases e with
   |normal=>exact⟨k+1,⟨h,q.1⟩,by omega,⟨q.2.1,q.2.2.1,q.2.2.2⟩⟩
   |ret=>exact q
   |exit i=>exact q
  grind
section
variable {Q:PV→Heap→Nat→Prop}{w:Bool}{dst:Option Tmp}{ty:TypeId}{pos:String}{af:Array Edge}{gd:Option (Nat×Bool)}
theorem b4q{Γ:Nat→Option (List Value×TypeId)}{m:Mem}{F:Nat→Prop}{σ:Nat→Value}{t:Tr Value}{x:Operand}{e:TypeId}{cs:List FV}{n:Nat}(c:Ctx Γ m F σ H nx)(f:RL m F (htag H) σ nx L t)(h:AU Γ L x=some (.p (.lst e cs n))) :
 ∃a k g,ev t x=.slice a k g∧(0<n→a.isNone=false):=by
 have:=Bz c f h;generalize ev t x=v at this;cases this with
 |p d =>
  cases d with
  |nil=>simp
  |room=>simp
  |lst=>simp
theorem Zb{Γ:Nat→Option (List Value×TypeId)}{m:Mem}{F:Nat→Prop}{σ:Nat→Value}{t:Tr Value}{y:Operand}{v:Value}(a:Ctx Γ m F σ H nx)(d:RL m F (htag H) σ nx L t)(h:AU Γ L y=some (.p (.val v))):ev t y=v:=by
 have:=Bz a d h;cases this with|p c=>cases c;rfl
theorem b3f{P:Program}{t e':TypeId}{d c:Operand}{a:Option Addr}{k g:Nat}(e:P.underlying t=some (.slice e')):P8 P .eql t d c (.slice a k g) (.slice none 0 0)=some (.bool a.isNone)∧P8 P .neq t d c (.slice a k g) (.slice none 0 0)=some (.bool !a.isNone):=by
 simp[P8,e,JI]
theorem Aa.eqNil{t f e e':TypeId}{x y:Operand}{cs:List FV}{n:Nat}(j:AU E.Γ L x=some (.p (.lst e cs n)))(h:AU E.Γ L y=some (.p (.val (.slice none 0 0))))(o:E.P.underlying t=some (.slice e'))(q:∀b,(0<n→b=false)→Q (.p (.bool b)) H nx) :
 Aa E w ⟨dst,.binOp .eql t x y f,ty,pos,af,gd⟩ L H nx Q:=fun m F σ A c d=>by
 obtain⟨a,k,g,z,u⟩:=b4q c d j;have s:=Zb c d h;exact Gy.op (v:=.bool a.isNone) (m':=m) (fun _=>by simp only[BO,FI,z,s];rw[(b3f o).1];rfl) ⟨_,H,nx,F,σ,q a.isNone u,c,.p (.bool _),Step.refl _ _ _ _ _,fun _ k r _=>r⟩
theorem Aa.a7u{t a e e':TypeId}{x y:Operand}{cs:List FV}{n:Nat}(d:AU E.Γ L x=some (.p (.lst e cs n)))(c:AU E.Γ L y=some (.p (.val (.slice none 0 0))))(f:E.P.underlying t=some (.slice e'))(g:0<n)(q:Q (.p (.bool false)) H nx) :
 Aa E w ⟨dst,.binOp .eql t x y a,ty,pos,af,gd⟩ L H nx Q:=Aa.eqNil d c f fun b h=>by grind
theorem G5{α:Type}[Inhabited α]{l:List α}{i j:Nat}{a:α}:gi (l.set i a) j=if i=j∧j<l.length then a else gi l j:=by
 unfold gi;grind
theorem Aa.b8x{t c:TypeId}{x y:Operand}{n:Nat}(e:AU E.Γ L x=some (.p (.int .u64 ((2^n:Nat):Int))))(d:AU E.Γ L y=some (.p (.int .u64 1)))(f:n<64)(q:Q (.p (.int .u64 ((2^n-1:Nat):Int))) H nx) :
 Aa E w ⟨dst,.binOp .sub t x y c,ty,pos,af,gd⟩ L H nx Q :=
 Aa.c4m (a:=2^n) (b:=1) e d ⟨Nat.one_le_two_pow,cx (ax (by omega) (show n≤63 by omega)) (by decide)⟩ q
end
theorem all_succ{P:Nat→Prop}{k:Nat}(h:∀i,i<k→P i)(a:P k):∀i,i<k+1→P i :=by grind
def Bc{α:Type}(f:Nat→α):Nat→List α
 |0=>[]
 |k+1=>Bc f k++[f k]
theorem Cc{α:Type}(f:Nat→α):∀k,(Bc f k).length=k
 |0=>rfl
 |k+1=>by simp[Bc,Cc f k]
theorem qP{α:Type}(f:Nat→α):∀k i,i<k→(Bc f k)[i]?=some (f i)
 |0,i,h=>by omega
 |k+1,i,h=>by
  simp only[Bc];rw[List.getElem?_append];rw[Cc];by_cases a:i<k
  ·rw[if_pos a];exact qP f k i a
  grind
theorem Dy{α:Type}[Inhabited α](f:Nat→α){k i:Nat}(h:i<k):gi (Bc f k) i=f i:=by
 unfold gi;rw[qP f k i h];rfl
theorem MR{α:Type}{f g:Nat→α}:∀{k:Nat},(∀i,i<k→f i=g i)→Bc f k=Bc g k
 |0,_=>rfl
 |k+1,h=>by rw[Bc,Bc,MR (fun i a=>h i (by omega)),h k (by omega)]
def b9q{α:Type}(f:Nat→α)(l:List α):Nat→List α
 |0=>l
 |k+1=>(b9q f l k).set k (f k)
theorem La{α:Type}[Inhabited α]{l r:List α}(h:l.length=r.length)(a:∀i,i<l.length→gi l i=gi r i):l=r:=by
 refine fc h fun i c d=>?_
 have:=a i c;unfold gi at this;grind
theorem UN{α:Type}[Inhabited α]{a:α}{n i:Nat}(h:i<n):gi (List.replicate n a) i=a:=by
 unfold gi;grind
def c1z(k:Nat):Heap→Bool
 |[]=>true
 |(i,x)::H=>and (and (Nat.blt i k) (HB.ub k x)) (c1z k H)
theorem Dk{k:Nat}:∀{H:Heap},c1z k H=true→LK k H
 |[],_=>trivial
 |(_,_)::_,h=>by
  simp only[c1z,Bool.and_eq_true] at h;exact⟨⟨Ba h.1.1,HB.AA h.1.2⟩,Dk h.2⟩
def D7(E:Env)(g:FuncId)(ac:List PV)(Hc:Heap)(k:Nat)(x:FV):Prop:=AL E g ac Hc k fun r H' nx'=>r=.p x∧H'=Hc∧nx'=k
theorem D7.enter{f:FuncId}{fn:Func}{c:Code}{ac:List PV}{Hc:Heap}{k:Nat}{x:FV}(g:E.O f=none)(o:E.P.funcs[f]?=some fn)(q:fn.body=some c)(d:Ir E.G fn c=true)(j:ac.length≤fn.ntmps)
 (h:Ad E k c (CG 0 ac) Hc k (Done E.P fn.results.toList k fun e H' a=>e=.p x∧H'=Hc∧a=k)):D7 E f ac Hc k x:=AL.enter g o q d j h
theorem Aa.read{Q:PV→Heap→Nat→Prop}{dst:Option Tmp}{ty:TypeId}{pos:String}{af:Array Edge}{gd:Option (Nat×Bool)}{f:Operand}{args:Array Operand}{z:Array TypeId}{g:FuncId}{e cs Bh ac:List PV}{Hc:Heap}{x:FV}(ns:List Nat)(u:D7 E g ac Hc ns.length x)
 (s:AU E.Γ L f=some (.clo g e cs)) (y:evs E.Γ L args.toList=some Bh) (d:PE (e++Bh++cs) (CV.rn (rho ns nx) ac)) (k:CV.under ns.length ac) (j:LK ns.length Hc) (hin:HIn (rho ns nx) H Hc) (a:ns.Nodup) (c:∀b∈ns,b<nx)
 (o:news ns.length (rho ns nx) Hc (merge ns (rho ns nx) Hc H)=H) (q:Q (.p x) H nx) :
 Aa E true ⟨dst,.call { callee:=.value f,args:=args,argTypes:=z },ty,pos,af,gd⟩ L H nx Q :=
 Aa.ZJ s y d k j hin a c (fun h=>by cases h) u fun r H' nx' ⟨h1,h2,h3⟩=>by
  subst h1;subst h2;subst h3;rw[o,cG];exact q
theorem wM{P:Program}{t e:TypeId}{n:Nat}{z:List Value}{a:TypeInfo}{ps:Array (Nat×Value)}{c:Array Value}(g:Cb P t=some z)(h:P.underlying t=some (.array n e))(j:P.info? e=some a)
 (k:Instr.fill (fun i=>some (i*a.size,a.size)) z.toArray ps.toList=some c):Dz P (Instr.build t ps)=some (.agg c):=by
 obtain⟨i,f,q,p,o,r⟩:=BI g;unfold Instr.build;simp only[Ar];have d:Dz P (zeroValue t)=some f:=by
  simp only[zeroValue,Ar,Lc,q,Option.bind_some,p];rfl
 rw[d];simp only[Option.bind_some,AX,h];simp only[Ar,Gf,j,Option.map_some,Option.bind_some];have e:f.cells=z.toArray:=by rw[o]
 rw[e,k];rfl
theorem Aa.b9g{Q:PV→Heap→Nat→Prop}{w:Bool}{dst:Option Tmp}{ty:TypeId}{pos:String}{af:Array Edge}{gd:Option (Nat×Bool)}{t e:TypeId}{n:Nat}{ps:Array (Nat×Operand)}{z:List Value}{c:TypeInfo}{a:List (Nat×PV)}{f:List PV}(h:Cb E.P t=some z)(k:E.P.underlying t=some (.array n e))
 (r:E.P.info? e=some c) (o:evp E.Γ L ps.toList=some a) (s:Tj (fun i=>some (i*c.size,c.size)) (z.map fun v=>.p (Ij v)) a=some f) (q:Q (uq f) H nx) :
 Aa E w ⟨dst,.build t ps,ty,pos,af,gd⟩ L H nx Q :=
 Aa.quiet q fun m F σ j y u=>by
  obtain⟨_,_,_,_,_,g⟩:=BI h;obtain⟨d,G,C,B⟩:=Ry (fun i=>some (i*c.size,c.size)) (Zu y u o) (cs':=z.toArray) (Dv.zero g) (Dl g) s;have A:=wM (ps:=ps.map fun(i,x)=>(i,ev j x)) h k r (by rw[bE];omega);refine⟨.agg d,fun _=>?_,Xn C B⟩;simp only[BO,FI,h,A,Option.map_some]
end
section
open Go.Am
variable {E:Env}{L:Frame}{H:Heap}{nx:Nat}{Q:PV→Heap→Nat→Prop}
variable {dst:Option Tmp}{ty:TypeId}{pos:String}{af:Array Edge}{gd:Option (Nat×Bool)}
end
end Go.Vm
namespace Go.Proofs.YtnjkoebfgcbbdaaGreatDoor
open Go Go.Am Go.Vm
attribute [local irreducible] Aa Aj Ag Ad AL Ak Bd BL Bl Ai Vm.Done BD AO
structure Rgs where
 stops:List Nat
 cp:Nat
 off:Nat
instance:Enc Rgs:={ default:=⟨[],0,0⟩,enc:=fun x=>[.lst 82 (cells x.stops) x.stops.length,.int .u64 (x.cp:Int),.int .u64 (x.off:Int)],size:=3,len:=fun _=>rfl }
structure Rgs.Ok(r:Rgs):Prop where
 stops:∀i,i<r.stops.length→gi r.stops i<18446744073709551616
 cp:r.cp<18446744073709551616
 off:r.off<18446744073709551616
 len:r.stops.length<9223372036854775808
def b0j(b:Nat→Nat):List FV:=[.int .u8 (b 0:Int),.int .u8 (b 1:Int),.int .u8 (b 2:Int),.int .u8 (b 3:Int),.int .u8 (b 4:Int)]
def Hw(o:FQ)(b:Nat→Nat)(k:Nat):Nat:=b (k%3) &&& (2^(gi o.Ae k).stops.length-1)
def QX(o:FQ)(b:Nat→Nat):Rgs:=⟨Bc (Hw o b) o.Ae.length,b 3 &&& (2^o.I8.length-1),b 4 &&& (2^o.Ae.length-1)⟩
theorem c2h{n:Nat}(h:n≤3):2^n≤8:=ax (by omega) h
theorem a7l(b:Nat→Nat)(k:Nat):((b0j b).map PV.p)[0+((k:Int)%3).toNat*1]?=some (.p (.int .u8 ((b (k%3):Nat):Int))):=by
 have a:((k:Int)%3).toNat=k%3:=by omega
 rw[a];have:k%3<3:=bc _ (by decide);generalize k%3=n at this
 match n,this with
 |0,_=>rfl
 |1,_=>rfl
 |2,_=>rfl
theorem xI(o:FQ)(c:yO o)(b:Nat→Nat)(d:∀i,b i<256):Ak env 74 [.agg (Enc.enc o),.agg (b0j b)] (.p (.agg (Enc.enc (QX o b)))):=by
 have j:=c.Ae;have g:=c.I8;have b3:=d 3;have B:=d 4;have z:=c2h g;have y:=c2h j.2;refine Ak.enter (Af (by decide)) Tryz.func74 rfl (by kernel_rfl) (by simp[Tryz.ntmps74]) ?_
 repeat' (first|(apply Aa.Vs;rfl;rfl;rfl;rfl;rfl;decide)|refine Jq ?_|(apply Aa.b8x;rfl;rfl;omega)|(apply Aa.build;rfl;rfl;rfl;rfl;rfl)|(apply Aa.uY;rfl;rfl;rfl;rfl;omega)|(apply Aa.lY;rfl;rfl;omega))
 refine Ad.ghost (Aq.Fg 3 0 82 rfl rfl) ?_;apply Ad.GU (o.Ae.length) [(2,_),(3,_),(4,_),(5,_)] [(0,_),(1,_),(2,_)] (fun k r=>(6,.p (.int .i64 (k:Int)))::r) (fun k r=>(4,.vec 82 (cells (Bc (Hw o b) k)) (Bc (Hw o b) k).length true)::(3,.box 179 [.vec 4 (Bc (Hw o b) k).length 0 (Bc (Hw o b) k).length,.p (.int .u64 ((b 3 &&& (2^o.I8.length-1):Nat):Int)),.p (.int .u64 ((b 4 &&& (2^o.Ae.length-1):Nat):Int))])::r) 5
 ·first|omega|decide
 ·first|omega|decide
 ·exact Qb
 ·exact Tt
 ·intro k u
  have s:=Cc (Hw o b) k;have e:Bc (Hw o b) (k+1)=Bc (Hw o b) k++[Hw o b k]:=rfl;have f:(Bc (Hw o b) (k+1)).length=(Bc (Hw o b) k).length+1:=by rw[e];simp
  have s3:=c.stops k u;have A:=c2h s3;have x:=d (k%3);have q:=a7l b k
  repeat' (first|(apply Aa.b1u;rfl;rfl;rfl;exact q)|(apply Aa.Vs;rfl;rfl;rfl;rfl;rfl;omega)|(apply Aa.Dn (a:=Hw o b k);rfl;rfl;rfl;rfl;rfl;rfl;rfl;rfl;(intro _ h;cases h);rfl;rfl;rfl;decide;decide;(first|omega|(simp only[List.length_take,List.length_drop,List.length_append,List.length_singleton,List.length_cons,List.length_nil]<;>omega)))|(apply Aa.Ap;rfl;rfl;rfl;omega;rfl)|refine Jq ?_|(apply Aa.b8x;rfl;rfl;omega)|(apply Aa.int;rfl;rfl;rfl)|(apply Aa.buildSlice;rfl;rfl;rfl;decide;rfl;rfl;rfl)|(apply Aa.uY;rfl;rfl;rfl;rfl;omega)|(apply Aa.lY;rfl;rfl;omega)|(apply Ad.Ac;rfl)|(intro _;try(exfalso;omega)))
  all_goals try(exfalso;omega)
  refine Ai.normal ⟨by first|omega|decide,?_,?_⟩
  ·try(rw[f,e])
   exact Du
  ·rw[f,e]
   exact Ec
 ·have s:=Cc (Hw o b) o.Ae.length
  repeat' (first|(refine Ad.at 6 ?_;refine Ad.ghost (Aq.Dx 3 0 rfl rfl rfl) ?_;first|apply Ad.Bo|apply Ad.Ce)|refine go0 ?_|apply Ad.Bo|(apply Ad.Ac;rfl)|(intro _;try(exfalso;omega)))
  all_goals first|(exfalso;omega)|(refine Done.rt rfl rfl ⟨?_,rfl,rfl⟩;try rfl)
noncomputable def WL(o:FQ)(r:Rgs):Int :=
 open Classical in
 if r.stops.length≠o.Ae.length then 5
 else if ∃i,i<r.stops.length∧gi r.stops i / 2^(gi o.Ae i).stops.length≠0 then 3
 else if r.cp / 2^o.I8.length≠0∨r.off / 2^o.Ae.length≠0 then 3 else 0
theorem a9r{o:FQ}{r:Rgs}(h:r.stops.length≠o.Ae.length):WL o r=5:=by unfold WL;grind
theorem b1e{o:FQ}{r:Rgs}(h:r.stops.length=o.Ae.length){i:Nat}(a:i<r.stops.length)(c:gi r.stops i / 2^(gi o.Ae i).stops.length≠0):WL o r=3:=by
 unfold WL;rw[if_neg (fun d=>d h),if_pos ⟨i,a,c⟩]
theorem jf{o:FQ}{r:Rgs}(h:r.stops.length=o.Ae.length)(a:∀i,i<r.stops.length→gi r.stops i / 2^(gi o.Ae i).stops.length=0):WL o r=if r.cp / 2^o.I8.length≠0∨r.off / 2^o.Ae.length≠0 then 3 else 0:=by
 unfold WL;grind
end Go.Proofs.YtnjkoebfgcbbdaaGreatDoor
namespace Go.Proofs.YtnjkoebfgcbbdaaGreatDoor
open Go Go.Am Go.Vm
attribute [local irreducible] CJ Bf
theorem RN{a:List H7}{l:List og}:∀(n k:Nat),l.length-k=n→GI a l k=0→∀i,k≤i→i<l.length→DW a (gi l i)=0
 |0,k,h,_,i,h1,h2=>by omega
 |n+1,k,h,h0,i,h1,h2=>by
  rw[GI,if_pos (by omega)] at h0;split at h0
  ·omega
  split at h0
  ·omega
  split at h0
  ·omega
  rename_i c;rcases aq k i with h4|h4
  ·exact RN n (k+1) (by omega) h0 i h4 h2
  grind
structure WO(o:FQ):Prop where
 sm:Tm o
 err:VI o=0
 Ae:1≤o.Ae.length∧o.Ae.length≤8
 I8:o.I8.length≤40
 stops:∀i,i<o.Ae.length→(gi o.Ae i).stops.length≤60
theorem c0j{o:FQ}(e:Tm o)(h:VI o=0):WO o:=by
 have a:=h;unfold VI at a;split at a
 ·exact absurd a (by decide)
 split at a
 ·exact absurd a (by decide)
 split at a
 ·rename_i c;exact absurd a c
 split at a
 ·exact absurd a (by decide)
 rename_i k;split at a
 ·exact absurd a (by decide)
 rename_i j;split at a
 ·rename_i c;exact absurd a c
 rename_i d;have d:GI o.ranks o.Ae 0=0:=bx d;unfold EF at a;split at a
 ·exact absurd a (by decide)
 rename_i p;refine⟨e,h,⟨by omega,by omega⟩,by omega,fun i f=>?_⟩;have:=RN _ 0 rfl d i (an _) f;unfold DW at this;split at this
 ·rename_i c;exact absurd this c
 split at this
 ·exact absurd this (by decide)
 rename_i g;omega
structure d4t(rk:List H7)(s:Stp):Prop where
 Js:s.Js.length≤12
 draws:∀i,i<s.Js.length→(gi s.Js i).draws.length≤8∧∀j,j<(gi s.Js i).draws.length→0≤(gi (gi s.Js i).draws j).rank∧(gi (gi s.Js i).draws j).rank<rk.length
def b8k(rk:List H7)(s:Stp)(n:Nat):Nat→List UInt8
 |0=>[]
 |k+1=>if(gi s.Js (n-(k+1))).draws.length>0 then(gi rk (gi (gi s.Js (n-(k+1))).draws 0).rank.toNat).Kt else b8k rk s n k
def d2r(rk:List H7)(s:Stp):List UInt8:=b8k rk s s.Js.length s.Js.length
end Go.Proofs.YtnjkoebfgcbbdaaGreatDoor
namespace Go.Proofs.YtnjkoebfgcbbdaaGreatDoor
open Go Go.Am Go.Vm
structure Me where
 s:Int
 e:Int
 d:Int
 k:Int
deriving DecidableEq
instance:Enc Me:={ default:=⟨0,0,0,0⟩,enc:=fun x=>[.int .i64 x.s,.int .i64 x.e,.int .i64 x.d,.int .i64 x.k],size:=4,len:=fun _=>rfl }
structure yA where
 bar:Int
 reg:Rgs
instance:Enc yA:={ default:=⟨0,default⟩,enc:=fun x=>[.int .i64 x.bar,.lst 82 (cells x.reg.stops) x.reg.stops.length,.int .u64 (x.reg.cp:Int),.int .u64 (x.reg.off:Int)],size:=4,len:=fun _=>rfl }
structure Fe where
 bars:List Int
 notes:List Me
 sets:List yA
instance:Enc Fe:={ default:=⟨[],[],[]⟩,enc:=fun x=>[.lst 3 (cells x.bars) x.bars.length,.lst 39 (cells x.notes) x.notes.length,.lst 182 (cells x.sets) x.sets.length],size:=3,len:=fun _=>rfl }
def kM(a b:Me):Bool:=decide (a.d=b.d)&&(decide (a.k=b.k)&&(decide (a.s<b.e)&&decide (b.s<a.e)))
def Y2(l:List Int)(k:Nat):Int :=
 if k<l.length then if gi l k<0∨gi l k>100000 then 3 else if 0<k∧gi l k≤gi l (k-1) then 6 else Y2 l (k+1) else 0
termination_by l.length-k
def Ti(l:List Int):Int:=if l.length<2 then 5 else if l.length>201 then 4 else Y2 l 0
def VB(o:FQ)(a z:Int)(pre:List Me)(n:Me):Int :=
 if n.d<0∨n.d≥o.Ae.length then 10
 else if n.k<(gi o.Ae n.d.toNat).lo∨n.k>(gi o.Ae n.d.toNat).hi then 23
 else if n.s<a∨n.e>z then 3
 else if n.s≥n.e then 6
 else if pre.any (fun m=>kM m n) then 14 else 0
def Ih(o:FQ)(a z:Int)(l:List Me)(k:Nat):Int :=
 if k<l.length then if VB o a z (l.take k) (gi l k)≠0 then VB o a z (l.take k) (gi l k) else Ih o a z l (k+1) else 0
termination_by l.length-k
noncomputable def Ov(o:FQ)(nb:Nat)(l:List yA)(k:Nat):Int :=
 if(gi l k).bar<0∨(gi l k).bar≥(nb:Int)-1 then 3
 else if 0<k∧(gi l k).bar=(gi l (k-1)).bar then 9
 else if 0<k∧(gi l k).bar<(gi l (k-1)).bar then 6
 else WL o (gi l k).reg
noncomputable def PU(o:FQ)(nb:Nat)(l:List yA)(k:Nat):Int :=
 if k<l.length then if Ov o nb l k≠0 then Ov o nb l k else PU o nb l (k+1) else 0
termination_by l.length-k
def Nr(p:Fe):Int:=gi p.bars 0
def NG(p:Fe):Int:=gi p.bars (p.bars.length-1)
noncomputable def dR(o:FQ)(p:Fe):Int :=
 if Ti p.bars≠0 then Ti p.bars else if p.notes.length>1000 then 4 else if Ih o (Nr p) (NG p) p.notes 0≠0 then Ih o (Nr p) (NG p) p.notes 0
 else if p.sets.length>100 then 4 else PU o p.bars.length p.sets 0
noncomputable def Ui(o:FQ)(p:Fe):Int:=if VI o≠0 then VI o else dR o p
structure Yo(p:Fe):Prop where
 bars:p.bars.length<1000000
 notes:p.notes.length<1000000
 sets:p.sets.length<1000000
 reg:∀i,i<p.sets.length→(gi p.sets i).reg.Ok
theorem oG{l:List Int}{k:Nat}(h:k<l.length):Y2 l k=if gi l k<0∨gi l k>100000 then 3 else if 0<k∧gi l k≤gi l (k-1) then 6 else Y2 l (k+1):=by
 rw[Y2,if_pos h]
theorem b0c(l:List Int):Y2 l l.length=0:=by rw[Y2,if_neg (cr _)]
theorem Wx{o:FQ}{a z:Int}{l:List Me}{k:Nat}(h:k<l.length):Ih o a z l k=if VB o a z (l.take k) (gi l k)≠0 then VB o a z (l.take k) (gi l k) else Ih o a z l (k+1):=by
 rw[Ih,if_pos h]
theorem zS(o:FQ)(a z:Int)(l:List Me):Ih o a z l l.length=0:=by rw[Ih,if_neg (cr _)]
theorem fC{o:FQ}{nb:Nat}{l:List yA}{k:Nat}(h:k<l.length):PU o nb l k=if Ov o nb l k≠0 then Ov o nb l k else PU o nb l (k+1):=by
 rw[PU,if_pos h]
theorem a3h(o:FQ)(nb:Nat)(l:List yA):PU o nb l l.length=0:=by rw[PU,if_neg (cr _)]
theorem uS{l:List Int}:∀(n k:Nat),l.length-k=n→Y2 l k=0→∀i,k≤i→i<l.length→(0≤gi l i∧gi l i≤100000)∧(0<i→gi l (i-1)<gi l i)
 |0,k,h,_,i,h1,h2=>by omega
 |n+1,k,h,h0,i,h1,h2=>by
  rw[oG (by omega)] at h0;split at h0
  ·omega
  rename_i c;split at h0
  ·omega
  rename_i a;rcases aq k i with h5|h5
  ·exact uS n (k+1) (by omega) h0 i h5 h2
  grind
theorem jh{l:List Int}(h:∀i,i<l.length→(0≤gi l i∧gi l i≤100000)∧(0<i→gi l (i-1)<gi l i)):∀(n k:Nat),l.length-k=n→Y2 l k=0
 |0,k,hk=>by rw[Y2,if_neg (by omega)]
 |n+1,k,hk=>by
  obtain⟨c,a⟩:=h k (by omega);rw[oG (by omega),if_neg (by omega),if_neg (fun⟨h3,h4⟩=>by omega)];exact jh h n (k+1) (by omega)
theorem bZ{o:FQ}{a z:Int}{l:List Me}:∀(n k:Nat),l.length-k=n→Ih o a z l k=0→∀i,k≤i→i<l.length→VB o a z (l.take i) (gi l i)=0
 |0,k,h,_,i,h1,h2=>by omega
 |n+1,k,h,h0,i,h1,h2=>by
  rw[Wx (by omega)] at h0;split at h0
  ·omega
  rename_i c;rcases aq k i with h5|h5
  ·exact bZ n (k+1) (by omega) h0 i h5 h2
  grind
theorem YJ{o:FQ}{a z:Int}{l:List Me}(h:∀i,i<l.length→VB o a z (l.take i) (gi l i)=0):∀(n k:Nat),l.length-k=n→Ih o a z l k=0
 |0,k,hk=>by rw[Ih,if_neg (by omega)]
 |n+1,k,hk=>by
  rw[Wx (by omega),if_neg (fun c=>c (h k (by omega)))];exact YJ h n (k+1) (by omega)
theorem jO{o:FQ}{nb:Nat}{l:List yA}:∀(n k:Nat),l.length-k=n→PU o nb l k=0→∀i,k≤i→i<l.length→Ov o nb l i=0
 |0,k,h,_,i,h1,h2=>by omega
 |n+1,k,h,h0,i,h1,h2=>by
  rw[fC (by omega)] at h0;split at h0
  ·omega
  rename_i a;rcases aq k i with h5|h5
  ·exact jO n (k+1) (by omega) h0 i h5 h2
  grind
theorem Z7{o:FQ}{nb:Nat}{l:List yA}(h:∀i,i<l.length→Ov o nb l i=0):∀(n k:Nat),l.length-k=n→PU o nb l k=0
 |0,k,hk=>by rw[PU,if_neg (by omega)]
 |n+1,k,hk=>by
  rw[fC (by omega),if_neg (fun a=>a (h k (by omega)))];exact Z7 h n (k+1) (by omega)
structure c0u(o:FQ)(p:Fe)(i:Nat):Prop where
 d:0≤(gi p.notes i).d∧(gi p.notes i).d<o.Ae.length
 k:(gi o.Ae (gi p.notes i).d.toNat).lo≤(gi p.notes i).k∧(gi p.notes i).k≤(gi o.Ae (gi p.notes i).d.toNat).hi
 r:Nr p≤(gi p.notes i).s∧(gi p.notes i).s<(gi p.notes i).e∧(gi p.notes i).e≤NG p
 c:∀j,j<i→kM (gi p.notes j) (gi p.notes i)=false
structure pV(o:FQ)(p:Fe):Prop where
 sm:Yo p
 err:dR o p=0
 bars:2≤p.bars.length∧p.bars.length≤201
 bar:∀i,i<p.bars.length→(0≤gi p.bars i∧gi p.bars i≤100000)∧(0<i→gi p.bars (i-1)<gi p.bars i)
 notes:p.notes.length≤1000
 note:∀i,i<p.notes.length→c0u o p i
 sets:p.sets.length≤100
 set:∀i,i<p.sets.length→(0≤(gi p.sets i).bar∧(gi p.sets i).bar<(p.bars.length:Int)-1)∧(0<i→(gi p.sets (i-1)).bar<(gi p.sets i).bar)∧WL o (gi p.sets i).reg=0
theorem dh{l:List Me}{f:Me→Bool}{i:Nat}(d:i≤l.length):(l.take i).any f=false↔∀j,j<i→f (gi l j)=false:=by
 rw[List.any_eq_false];constructor
 ·intro h j c
  have:gi l j∈l.take i:=by
   unfold gi;rw[ai (by omega)];exact gn.2 ⟨j,by omega,rfl⟩
  grind
 ·intro h x a
  obtain⟨j,c,rfl⟩:=gn.1 a;have:=h j (by omega);unfold gi at this;grind
theorem aG{o:FQ}{p:Fe}{i:Nat}(g:i<p.notes.length):VB o (Nr p) (NG p) (p.notes.take i) (gi p.notes i)=0↔c0u o p i:=by
 unfold VB;constructor
 ·intro h
  split at h
  ·omega
  split at h
  ·omega
  split at h
  ·omega
  split at h
  ·omega
  split at h
  ·omega
  rename_i e d c a j;exact⟨by omega,by omega,by omega,(dh (f:=fun m=>kM m (gi p.notes i)) (by omega)).1 (by grind)⟩
 ·rintro⟨e,d,c,a⟩
  rw[if_neg (by omega),if_neg (by omega),if_neg (by omega),if_neg (by omega),if_neg];rw[(dh (f:=fun m=>kM m (gi p.notes i)) (by omega)).2 a];decide
theorem kJ{o:FQ}{nb:Nat}{l:List yA}{i:Nat}:Ov o nb l i=0↔(0≤(gi l i).bar∧(gi l i).bar<(nb:Int)-1)∧(0<i→(gi l (i-1)).bar<(gi l i).bar)∧WL o (gi l i).reg=0:=by
 unfold Ov;omega
theorem c8b{o:FQ}{p:Fe}(h:Yo p)(f:dR o p=0):pV o p:=by
 have d:=f;unfold dR at d;split at d
 ·omega
 rename_i c;have c:=bx c;split at d
 ·omega
 rename_i j;split at d
 ·omega
 rename_i e;have e:=bx e;split at d
 ·omega
 rename_i g;unfold Ti at c;split at c
 ·omega
 split at c
 ·omega
 refine⟨h,f,by omega,fun i a=>uS _ 0 rfl c i (an _) a,by omega,fun i a=>(aG a).1 (bZ _ 0 rfl e i (an _) a),by omega,fun i a=>kJ.1 (jO _ 0 rfl d i (an _) a)⟩
theorem a2r{o:FQ}{p:Fe}(h:Yo p)(q:2≤p.bars.length∧p.bars.length≤201)(e:∀i,i<p.bars.length→(0≤gi p.bars i∧gi p.bars i≤100000)∧(0<i→gi p.bars (i-1)<gi p.bars i))(k:p.notes.length≤1000)(d:∀i,i<p.notes.length→c0u o p i)(j:p.sets.length≤100)
 (c:∀i,i<p.sets.length→(0≤(gi p.sets i).bar∧(gi p.sets i).bar<(p.bars.length:Int)-1)∧(0<i→(gi p.sets (i-1)).bar<(gi p.sets i).bar)∧WL o (gi p.sets i).reg=0):pV o p:=by
 refine c8b h ?_;unfold dR;have g:Ti p.bars=0:=by
  unfold Ti;rw[if_neg (by omega),if_neg (by omega)];exact jh e _ 0 rfl
 have f:Ih o (Nr p) (NG p) p.notes 0=0:=YJ (fun i a=>(aG a).2 (d i a)) _ 0 rfl;rw[if_neg (fun h=>h g),if_neg (by omega),if_neg (fun h=>h f),if_neg (by omega)];exact Z7 (fun i a=>kJ.2 (c i a)) _ 0 rfl
end Go.Proofs.YtnjkoebfgcbbdaaGreatDoor
namespace Go.Pie
open Go Go.Vm
def Yh(P:Nat→Bool)(n:Nat):Nat→Int
 |0=>-1
 |r+1=>if P (n-(r+1))=true then((n-(r+1):Nat):Int) else Yh P n r
def Ej(P:Nat→Bool)(n:Nat):Int:=Yh P n n
theorem U6{P:Nat→Bool}{n k:Nat}(c:k<n)(h:P k=false):Yh P n (n-k)=Yh P n (n-(k+1)):=by
 obtain⟨j,a⟩:∃j,n-k=j+1:=⟨n-k-1,by omega⟩
 rw[a];show(if P (n-(j+1))=true then _ else Yh P n j)=_;grind
theorem Y8{P:Nat→Bool}{n k:Nat}(c:k<n)(h:P k=true):Yh P n (n-k)=(k:Int):=by
 obtain⟨j,a⟩:∃j,n-k=j+1:=⟨n-k-1,by omega⟩
 rw[a];show(if P (n-(j+1))=true then _ else Yh P n j)=_;grind
theorem nX(P:Nat→Bool)(n:Nat):∀r,r≤n→-1≤Yh P n r∧Yh P n r<(n:Int)
 |0,_=>⟨by simp[Yh],by simp only[Yh];omega⟩
 |r+1,hr=>by
  unfold Yh;split
  ·omega
  ·exact nX P n r (by omega)
theorem uT{P:Nat→Bool}{n:Nat}:∀r,r≤n→0≤Yh P n r→P (Yh P n r).toNat=true
 |0,_,h=>by simp[Yh] at h
 |r+1,hr,h=>by
  unfold Yh at h ⊢;split
  ·grind
  ·rename_i a
   rw[if_neg a] at h;exact uT r (by omega) h
theorem rX{P:Nat→Bool}{n:Nat}(h:∀i,i<n→P i=false):∀r,r≤n→Yh P n r=-1
 |0,_=>rfl
 |r+1,hr=>by
  unfold Yh;rw[if_neg (by grind)];exact rX h r (by omega)
theorem rC{P:Nat→Bool}{n k:Nat}(a:P k=true):∀r,r≤n→n-r≤k→k<n→0≤Yh P n r
 |0,_,h1,h2=>by omega
 |r+1,hr,h1,h2=>by
  unfold Yh;split
  ·omega
  ·rename_i c
   refine rC a r (by omega) ?_ h2;grind
structure oW where
 s:Int
 e:Int
 notes:List Int
deriving DecidableEq
instance:Inhabited oW:=⟨⟨0,0,[]⟩⟩
def c6g(a:Int)(S:Int→List Int):Nat→List Int
 |0=>[]
 |n+1=>if n=0∨S (a+n)≠S (a+n-1) then c6g a S n++[a+n] else c6g a S n
def b0k(S:Int→List Int)(T:List Int):List oW:=Bc (fun i=>⟨gi T i,gi T (i+1),S (gi T i)⟩) (T.length-1)
def stepW(S:Int→List Int)(w:List oW)(t:Int):List oW :=
 if w.length≠0∧(gi w (w.length-1)).notes=S t then w.set (w.length-1) ⟨(gi w (w.length-1)).s,(gi w (w.length-1)).e+1,(gi w (w.length-1)).notes⟩ else w++[⟨t,t+1,S t⟩]
def c8f(a:Int)(S:Int→List Int):Nat→List oW
 |0=>[]
 |n+1=>stepW S (c8f a S n) (a+n)
theorem OD{α:Type}[Inhabited α]{l r:List α}{i:Nat}(h:i<l.length):gi (l++r) i=gi l i:=by
 unfold gi;grind
theorem Oh{α:Type}[Inhabited α]{l:List α}{x:α}:gi (l++[x]) l.length=x:=by
 unfold gi;simp
theorem vX(S:Int→List Int)(T:List Int):(b0k S T).length=T.length-1:=Cc _ _
def Inc(l:List Int):Prop:=l.Pairwise (·<·)
theorem a1b:∀{l r:List Int},Inc l→Inc r→(∀x,x∈l↔x∈r)→l=r
 |[],[],_,_,_=>rfl
 |[],y::r,_,_,h=>by have:=(h y).2 (by simp);grind
 |x::l,[],_,_,h=>by have:=(h x).1 (by simp);grind
 |x::l,y::r,h1,h2,h=>by
  have c:=List.pairwise_cons.1 h1;have a:=List.pairwise_cons.1 h2;have e:x=y:=by
   have f:=(h x).1 (by simp);have d:=(h y).2 (by simp);grind
  subst e;rw[a1b c.2 a.2 fun z=>?_];grind
theorem Q7(zs:List Int)(x:Int):x∈Lib.compact zs↔x∈zs:=by
 unfold Lib.compact Lib.compactUpTo;constructor
 ·grind
 ·intro o
  obtain⟨i,c,e⟩:=bR.1 o;have d:∀n i,i≤n→∀c:i<zs.length,∃j,(j<zs.length∧Lib.keeps zs.toArray j=true)∧zs.toArray[j]! =zs[i]:=by
   intro n
   induction n with
   |zero =>
    intro i f c;obtain rfl:i=0:=by omega
    exact⟨0,⟨c,rfl⟩,by grind⟩
   |succ n k =>
    intro i f c;by_cases a:Lib.keeps zs.toArray i=true
    ·grind
    ·match i,c,f,a with
     |0,_,_,a=>grind
     |i+1,c,f,a =>
      obtain⟨j,h,g⟩:=k i (by omega) (by omega);refine⟨j,h,g.trans ?_⟩;unfold Lib.keeps at a;simp only[Nat.add_sub_cancel] at a;rw[getElem!_pos zs.toArray i (by simpa using(by omega:i<zs.length)),getElem!_pos zs.toArray (i+1) (by simpa using c)] at a;simp at a;exact a.symm
  obtain⟨j,h,g⟩:=d i i (ab _) c;grind
theorem Yt{zs:List Int}(h:zs.Pairwise (·≤·)):Inc (Lib.compact zs):=by
 have e:∀i j,i≤j→j<zs.length→zs.toArray[i]!≤zs.toArray[j]!:=fun i j q p=>by
  rw[getElem!_pos zs.toArray i (by grind),getElem!_pos zs.toArray j (by omega)];rcases aq i j with h'|h'
  ·simpa using ep.1 h i j (by omega) p h'
  grind
 have c:∀m,m≤zs.length→Inc (Lib.compactUpTo zs.toArray m)∧∀x,x∈Lib.compactUpTo zs.toArray m→∃j,j<m∧x=zs.toArray[j]!:=by
  intro m
  induction m with
  |zero=>intro _;exact⟨List.Pairwise.nil,fun x a=>by cases a⟩
  |succ m g =>
   intro r;obtain⟨o,k⟩:=g (by omega);rw[Lib.compactUpTo_succ];by_cases f:Lib.keeps zs.toArray m=true
   ·rw[if_pos f]
    refine⟨hX.2 ⟨o,List.pairwise_singleton _ _,fun x a y d=>?_⟩,fun x a=>?_⟩
    ·obtain⟨j,A,rfl⟩:=k x a
     rw[aR] at d;subst d;have z:=e j (m-1) (by omega) (by omega);have u:=e (m-1) m (by omega) (by omega);have s:zs.toArray[m]!≠zs.toArray[m-1]!:=by
      rcases of_decide_eq_true f with h5|h5
      ·omega
      ·exact h5
     omega
    grind
   grind
 exact(c zs.length (ab _)).1
theorem lG(zs:List Int):(zs.mergeSort fun x y=>decide (x≤y)).Pairwise (·≤·):=by
 have:=List.pairwise_mergeSort (le:=fun x y:Int=>decide (x≤y)) (fun a b c e d=>by grind) (fun a b=>by grind) zs;grind
end Go.Pie
namespace Go.Vm
open Go.Am
section
variable {E:Env}{L:Vm.Frame}{H:Vm.Heap}{nx:Nat}{Q:PV→Vm.Heap→Nat→Prop}{w:Bool}{dst:Option Tmp}{ty:TypeId}{pos:String}{af:Array Edge}{gd:Option (Nat×Bool)}
theorem a0z{m:Mem}{F:Nat→Prop}:∀{cs:List FV} {vs:List Value} {j:Nat} {c:FV},Dt m F cs vs→cs[j]?=some c→∃v,vs[j]?=some v∧RF m F c v
 |_,_,0,c,.cons h t,e=>by grind
 |_,_,j+1,c,.cons h t,e=>by
  obtain⟨v,d,a⟩:=a0z t e;grind
 |_,_,_,_,.nil,e=>by grind
theorem Aa.c2b{t e:TypeId}{x f:Operand}{n:Nat}{cs:List FV}{k:IntKind}{i:Int}{d:TypeInfo}{c:FV}(r:AU E.Γ L x=some (.p (.agg cs)))(z:AU E.Γ L f=some (.p (.int k i)))
 (s:E.P.underlying t=some (.array n e)) (G:Gz E.P e=some false) (y:E.P.info? e=some d) (h:0≤i∧i<n) (C:cs[i.toNat*d.size]?=some c) (q:Q (.p c) H nx) :
 Aa E w ⟨dst,.index t x f,ty,pos,af,gd⟩ L H nx Q :=
 Aa.quiet q fun m F σ o j g=>by
  have a:=Bz j g r;generalize hv:ev o x=v at a;cases a with
  |p a =>
   cases a with
   |agg a B =>
    rename_i l;obtain⟨u,J,I⟩:=a0z a C;refine⟨u,fun _=>?_,.p I⟩;have A:Dz E.P (Instr.index t (.agg l.toArray) (.int k i))=some u:=by
     unfold Instr.index;simp only[Ar,AX,s];rw[show Dz E.P (asIntOf (.int k i))=some (k,i) from rfl];simp only[Option.bind_some,h,and_self,if_true,Ar,Gf,y,Option.map_some];unfold part;simp only[Ar,RD,G,Option.bind_some,Bool.false_eq_true,if_false,List.getElem?_toArray,J];rfl
    simp only[BO,FI,hv,CQ j g z,A,Option.map_some];rfl
end
theorem o9{Γ:Nat→Option (List Value×TypeId)}{m:Mem}{F:Nat→Prop}{σ:Nat→Value}{H:Heap}{nx b:Nat}{y:HB}(h:Ctx Γ m F σ H nx)(s:hget H b=some y) :
 Ctx Γ m (fun c=>F c∨Dp (σ b)=some c) σ (hdel H b) nx∧Step m F σ H nx m (fun c=>F c∨Dp (σ b)=some c) σ (hdel H b) nx:=by
 have f:∀c,Dp (σ b)=some c→own H σ c:=fun c hc=>⟨b,_,s,hc⟩
 have k:∀c,F c→(F c∨Dp (σ b)=some c)∧m.get c=m.get c:=fun c hc=>⟨.inl hc,rfl⟩
 have u:Names nx (htag H) σ (htag (hdel H b)) σ:=fun d _=>by
  rw[Xf];split
  ·exact⟨trivial,fun _ _ _=>rfl⟩
  ·exact⟨Xq.refl _,fun _ _ _=>rfl⟩
 have a:∀d x,hget (hdel H b) d=some x→d≠b∧hget H d=some x:=fun d x e=>by
  rw[IX] at e;grind
 refine⟨⟨?_,?_,?_,?_⟩,⟨ab _,fun _ _ _=>rfl,fun _ h=>.inl h,fun c _ hc=>hc.imp id (f c),?_,ab _,u,fun _ h _ _=>h⟩⟩
 ·rintro c (hc|hc)
  ·exact h.fr c hc
  ·exact(h.MB (f c hc)).2
 ·intro d x e
  obtain⟨j,e⟩:=a d x e;obtain⟨A,z⟩:=h.hp d x e;refine⟨A,z.mono k u (ab _) (ab _) fun c hc=>⟨rfl,?_⟩⟩;rintro(hf|hf)
  ·exact(h.MB ⟨d,x,e,hc⟩).1 hf
  ·exact j (h.sep d b x _ c e s hc hf)
 ·intro d B x r c e o hc p
  exact h.sep d B x r c (a d x e).2 (a B r o).2 hc p
 ·intro g q G C
  obtain⟨A,z⟩:=h.gl g q G C;grind
 ·rintro c _ ⟨d,x,e,hc⟩
  exact⟨d,x,(a d x e).2,hc⟩
section
variable {E:Env}{bn:Nat}{L:Vm.Frame}{H:Vm.Heap}{nx:Nat}{Q:BH→Vm.Frame→Vm.Heap→Nat→Prop}
def b9a(E:Env)(g:FuncId)(fn:Func)(cs:List FV)(e:TypeId)(rows:List (List Value)):Prop :=
 ∀Fo,E.O g=some Fo→∀m F c vs,m.get c=.cells vs e 0 false→Dt m F cs vs→F c→∃key,∀m' F' σ' H' nx',(∀d,F d→m'.get d=m.get d)→Ctx E.Γ m' F' σ' H' nx'→∃m1,Fo (Es fn.ntmps [.pointer (some ⟨c,0,none⟩)]) m'=some (Jj key rows,m1)
theorem Ad.yU{f:Operand}{ps:Array Tmp}{MF h:Code}{g:FuncId}{fn:Func}{b:Nat}{cs:List FV}{ct:TypeId}{rows:List (List Value)}(n:Nat)(a7p:Nat→List FV)(ZW:Nat→List Value)(L0:Vm.Frame)(s:Nat→Vm.Heap)(CP:Nat)(o:Nat→Prop)
 (hf:AU E.Γ L f=some (.clo g [] [.ref b 0])) (N:hget H b=some (.box ct (cs.map .p))) (hfn:E.P.funcs[g]?=some fn) (hfl:(flat MF&&flat h)=true) {Fo:List Value→Mem→Option (Value×Mem)} (ho:E.O g=some Fo) (hr:rows=(List.range n).map ZW) (hlen:∀k,k<n→(ZW k).length=ps.size) (hpl:∀k,k<n→(ZW k).all plain=true) (Z:∀k,k<n→∀m F,Dt m F (a7p k) (ZW k))
 (hb:bn≤CP) (hc:V8 L (hdel H b) nx L0 (s 0) CP) (U:F5 CP L0 L0) (hask:b9a E g fn cs ct rows)
 (h0:o 0) (dV:∀k,k<n→o k→Ad E CP MF (a3f L0 ps.toList (a7p k)) (s k) CP fun e L1 H1 Y=>e=.normal∧Ad E CP h L1 H1 Y (RQ (o (k+1)) CP L0 (s (k+1)) Q))
 (K:o n→Q .normal L0 (s n) CP):Ad E bn (.rangeFunc f ps MF h) L H nx Q:=by
 intro B hB m F σ t h1 h2 h3;have hv:=Bz h1 h2 hf;have hlb:∃c W,ev t f=.func (.func g) #[] #[.pointer (some ⟨c,0,none⟩)]∧m.get c=.cells W ct 0 false∧Dt m F cs W∧Dp (σ b)=some c:=by
  obtain⟨_,c,W,r1,r2,r3,r4,r5,r6⟩:=h1.hp b _ N;generalize ev t f=u at hv;cases hv with
  |clo p1 p2 =>
   cases p1;cases p2 with
   |cons p2 p3 =>
    cases p3;cases p2 with
    |ref q1 q2 X =>
     obtain⟨c',s1,s2⟩:=X (by simp[htag,N,HB.tag]);rw[r1] at s1;cases s1;exact⟨c,W,by rw[s2],r4,Dt.X7 r5,by rw[r1];rfl⟩
 obtain⟨c,W,hev,hgc,hrc,hblk⟩:=hlb;obtain⟨g1,g2⟩:=o9 h1 N;obtain⟨A,V⟩:∃A:Nat→Prop,A=fun d=>F d∨Dp (σ b)=some d:=⟨_,rfl⟩
 rw[← V] at g1 g2;have hcF:A c:=by rw[V];exact .inr hblk
 obtain⟨key,z⟩:=hask Fo ho m A c W hgc (hrc.mono fun d M=>⟨by rw[V];exact .inl M,rfl⟩) hcF;have l1:RL m A (htag (hdel H b)) σ nx L t:=RL.step g2 h1 h2;have y:∀j k,k+j=n→o k→∀m1 x a,Ctx E.Γ m1 x a (s k) CP→RL m1 x (htag (s k)) a CP L0 t→B.to m1 x a (s k) CP→(∀d,A d→x d∧m1.get d=m.get d) →
  MO E.P E.O E.G MF h ps.size (fun m'=>∃m1,Fo (Es fn.ntmps [.pointer (some ⟨c,0,none⟩)]) m'=some (Jj key rows,m1)) t ps.toList (rows.drop k) m1 fun e m'=>∃L' H' nx' F' σ',Q e L' H' nx'∧Ctx E.Γ m' F' σ' H' nx'∧RL m' F' (htag H') σ' nx' L' t∧B.to m' F' σ' H' nx':=by
  intro j
  induction j with
  |zero =>
   intro k hk J m1 x a c1 l b fz;obtain rfl:k=n:=by omega
   rw[hr,dm (by simp)];exact⟨L0,_,CP,x,a,K J,c1,l,b⟩
  |succ j ih =>
   intro k hk J m1 x a c1 l b fz;have e0:rows.drop k=ZW k::rows.drop (k+1):=by
    rw[hr,bN (by simp;omega)];simp
   rw[e0];refine⟨hlen k (by omega),hpl k (by omega),?_⟩;refine(dV k (by omega) J ⟨m1.at m1.size,x,a,s k,CP⟩ rfl _ x a _ (c1.at _) (RL.Nv (RL.at (Γ:=E.Γ) _ l) (Z k (by omega) _ _)) (Step.refl _ _ _ _ _)).mono ?_;rintro e1 s1 ⟨L1,H1,Y,F2,σ2,⟨he,S⟩,d1,d2,d3⟩;refine⟨he,(S ⟨m1.at m1.size,x,a,s k,CP⟩ rfl s1.m F2 σ2 s1.t d1 d2 d3).mono ?_⟩;rintro e2 s2 ⟨L2,H2,uO,F3,C,q,k1,k2,k3⟩;have st:Step m1 x a (s k) CP (s2.m.at (min m1.low s2.m.low)) F3 C H2 uO:=Step.at k3;have I:=k1.at (min m1.low s2.m.low);have l':=RL.step st c1 l;have b':=Step.trans b st;have fz':∀d,A d→F3 d∧(s2.m.at (min m1.low s2.m.low)).get d=m.get d:=fun d M=>by
    obtain⟨x1,x2⟩:=fz d M;obtain⟨y1,y2⟩:=st.frozen c1 d x1;exact⟨y1,y2.trans x2⟩
   cases e2 with
   |normal =>
    have r:V8 L0 H2 uO L0 (s (k+1)) CP:=⟨q.2.1,U,q.2.2⟩
    have c2:=r.ctx I;exact⟨z _ _ _ _ _ (fun d M=>(fz' d M).2) c2,ih (k+1) (by omega) q.1 _ _ _ c2 (r.rl l') (r.step (by omega) b') fz'⟩
   |ret =>
    obtain⟨q1,H3,q2,X⟩:=q;have r:V8 L0 H2 uO L0 H3 CP:=⟨q1,U,q2⟩
    exact⟨L0,H3,CP,F3,C,X,r.ctx I,r.rl l',r.step (by omega) b'⟩
   |exit id =>
    obtain⟨q1,H3,q2,X⟩:=q;have r:V8 L0 H2 uO L0 H3 CP:=⟨q1,U,q2⟩
    exact⟨L0,H3,CP,F3,C,X,r.ctx I,r.rl l',r.step (by omega) b'⟩
 refine Nz.rangeFunc (fn:=fn) (Fo:=Fo) (rows:=rows) hev hfn hfl ho (z _ _ _ _ _ (fun _ _=>rfl) g1) ?_;have:=y n 0 (by omega) h0 m A σ (hc.ctx g1) (hc.rl l1) (hc.step (by omega) (h3.trans g2)) fun d M=>⟨M,rfl⟩
 rw[cw] at this;exact this
end
def d4o(e:TypeId)(ks:List Int)(f:Int→List Int):List (FV×FV):=ks.map fun k=>(.int .i64 k,.lst e (cells (f k)) (f k).length)
section
variable {E:Env}{L:Frame}{H:Heap}{nx:Nat}{Q:PV→Heap→Nat→Prop}{w:Bool}
variable {dst:Option Tmp}{ty:TypeId}{pos:String}{af:Array Edge}{gd:Option (Nat×Bool)}
theorem c5a{Γ:Nat→Option (List Value×TypeId)}{m:Mem}{F:Nat→Prop}{σ:Nat→Value}{t:Tr Value}{k:IntKind}{n:Int}{o:Operand}(a:Ctx Γ m F σ H nx)(c:RL m F (htag H) σ nx L t)(h:AU Γ L o=some (.p (.int k n))):ev t o=.int k n:=by
 have:=Bz a c h;generalize ev t o=v at this;cases this with
 |p h=>cases h;rfl
end
section
variable {E:Env}{bn i:Nat}{ops:Array Oper}{l:List Oper}{L:Frame}{H:Heap}{nx:Nat}{R:Frame→Heap→Nat→Prop}
end
def swp(a b i:Nat):Nat:=if i=a then b else if i=b then a else i
theorem PG(a b i:Nat):swp a b (swp a b i)=i:=by
 unfold swp;grind
theorem a1g{a b i j:Nat}(h:swp a b i=swp a b j):i=j:=by rw[← PG a b i,h,PG]
theorem b4t{a b i n:Nat}(d:n≤a)(c:n≤b)(h:i<n):swp a b i=i:=by unfold swp;grind
theorem yB{a b i n:Nat}(d:a<n)(c:b<n)(h:i<n):swp a b i<n:=by
 unfold swp;grind
def Hrn(ρ:Nat→Nat):Heap→Heap
 |[]=>[]
 |(i,x)::H=>(ρ i,x.rn ρ)::Hrn ρ H
theorem Zo(a b:Nat):∀(H:Heap) (i:Nat),hget (Hrn (swp a b) H) (swp a b i)=(hget H i).map (HB.rn (swp a b))
 |[],_=>rfl
 |(j,x)::H,i=>by
  simp only[Hrn,Bv];by_cases h:j=i
  ·grind
  ·rw[if_neg h,if_neg (fun e=>h (a1g e))];exact Zo a b H i
theorem nT(a b:Nat)(H:Heap)(i:Nat):htag (Hrn (swp a b) H) (swp a b i)=htag H i:=by
 unfold htag;rw[Zo];cases hget H i with
 |none=>rfl
 |some x=>simp[HB.xR]
theorem b4d{Γ:Nat→Option (List Value×TypeId)}{m:Mem}{F:Nat→Prop}{σ:Nat→Value}{H:Heap}{nx a b:Nat}(p:a<nx)(o:b<nx)(h:Ctx Γ m F σ H nx):Ctx Γ m F (fun i=>σ (swp a b i)) (Hrn (swp a b) H) nx:=by
 have u:∀j,j<nx→swp a b j<nx∧htag (Hrn (swp a b) H) (swp a b j)=htag H j∧(fun i=>σ (swp a b i)) (swp a b j)=σ j:=fun j z=>⟨yB p o z,nT a b H j,by simp only[PG]⟩
 have e:∀i x,hget (Hrn (swp a b) H) i=some x→∃y,hget H (swp a b i)=some y∧x=y.rn (swp a b):=fun i x d=>by
  rw[← PG a b i,Zo,ae] at d;grind
 refine⟨h.fr,fun i x d=>?_,fun i j x y c d s A f=>?_,h.gl⟩
 ·obtain⟨y,k,rfl⟩:=e i x d
  obtain⟨g,B⟩:=h.hp _ y k;refine⟨by have:=yB p o g;rwa[PG] at this,RB.rn u B⟩
 ·obtain⟨r,k,_⟩:=e i x d
  obtain⟨q,g,_⟩:=e j y s;exact a1g (h.sep _ _ r q c k g A f)
theorem b4n{σ:Nat→Value}{H:Heap}{a b c:Nat}(h:own (Hrn (swp a b) H) (fun i=>σ (swp a b i)) c):own H σ c:=by
 obtain⟨i,x,d,f⟩:=h;rw[← PG a b i,Zo,ae] at d;obtain⟨y,e,_⟩:=d;exact⟨_,y,e,f⟩
mutual
def FV.flat:FV→Bool
 | .int ..| .bool _| .str _| .val _=>true
 | .agg cs=>FVs.flat cs
 | .lst ..| .Fb _| .own ..=>false
def FVs.flat:List FV→Bool
 |[]=>true
 |c::cs=>FV.flat c&&FVs.flat cs
end
mutual
def PV.flat:PV→Bool
 | .p x=>x.flat
 | .agg cs=>CV.flat cs
 | .D5 cs=>CV.flat cs
 | .vec ..| .ref ..| .E8 ..| .mref _=>true
 | .clo _ fs cs=>CV.flat fs&&CV.flat cs
def CV.flat:List PV→Bool
 |[]=>true
 |c::cs=>PV.flat c&&CV.flat cs
end
def HB.flat:HB→Bool
 | .box _ cs=>CV.flat cs
 | .vec _ cs _ _=>FVs.flat cs
 | .map _=>false
 | .EX ..=>false
 | .JZ ..=>false
def c6u:Heap→Bool
 |[]=>true
 |(_,x)::H=>x.flat&&c6u H
section
variable {m m':Mem}{F F':Nat→Prop}{T:Nat→Option Tg}{σ:Nat→Value}{n:Nat}
end
section
variable {E:Env}{L:Frame}{H:Heap}{nx:Nat}{Q:PV→Heap→Nat→Prop}{w:Bool}
variable {dst:Option Tmp}{ty:TypeId}{pos:String}{af:Array Edge}{gd:Option (Nat×Bool)}
end
variable {E:Env}{L:Frame}{H:Heap}{nx:Nat}{Q:PV→Heap→Nat→Prop}{w:Bool}
variable {dst:Option Tmp}{ty:TypeId}{pos:String}{af:Array Edge}{gd:Option (Nat×Bool)}
theorem bP(σ:Nat→Value)(a:Nat):upd σ a (σ a)=σ:=by funext x;simp only[upd];split<;>simp_all
theorem Aq.b5y(b:Nat){n:Nat}{e:TypeId}{cs:List FV}{z:Bool}(o:hget H b=some (.vec e cs n z))(J:0<n):Aq E L H nx L (hput H b (.EX e (cs.map .p) n)) nx:=fun B m F σ t a G C=>by
 obtain⟨_,y⟩:=a.hp b _ o;rcases y with⟨k,j,f⟩|⟨c,g,r,k,j,f,x,u,s,I⟩
 ·omega
 obtain⟨q,d⟩:=a.change (m':=m) (b0:=b) (x':=.EX e (cs.map .p) n) (s':=σ b) o (ab _) (fun _=>rfl) (ab _) (fun _ _ _=>rfl) (fun _ h _ _=>h) (fun c A=>.inl A)
  ⟨c,g,r,k,j,f,x,Dv.lC u,s⟩
 rw[bP] at q d;exact⟨F,σ,q,G.step d a,C.trans d⟩
theorem Aq.b0v(b:Nat){n:Nat}{e:TypeId}{ds:List PV}(cs:List FV)(f:hget H b=some (.EX e ds n))(G:0<n)(y:ds=cs.map .p):Aq E L H nx L (hput H b (.vec e cs n false)) nx:=fun B m F σ t a C A=>by
 subst y;obtain⟨_,c,g,k,x,u,s,r,q,o⟩:=a.hp b _ f;obtain⟨j,d⟩:=a.change (m':=m) (b0:=b) (x':=.vec e cs n false) (s':=σ b) f (ab _) (fun _=>rfl) (ab _) (fun _ _ _=>rfl) (fun _ h _ _=>h) (fun c z=>.inl z)
  (.inr ⟨c,g,k,x,u,s,r,Dt.X7 q,o,fun _=>rfl⟩)
 rw[bP] at j d;exact⟨F,σ,j,C.step d a,A.trans d⟩
theorem Aq.rY(a k:Nat){b n o:Nat}{e e':TypeId}{cs:List FV}{ds:List PV}{z:Bool}(ha:hget H a=some (.EX e' ds o))(Y:ds[k]?=some (.vec b n 0 n))(K:hget H b=some (.vec e cs n z)) :
 Aq E L H nx L (hput (hdel H b) a (.EX e' (ds.set k (.p (.lst e cs n))) o)) nx:=fun B m F σ t x h2 h3=>by
 obtain⟨A,N,c3⟩:=Rj x K;have s:b≠a:=fun e=>by grind
 have j:hget (hdel H b) a=some (.EX e' ds o):=by rw[IX,if_neg s];omega
 obtain⟨_,c,g,q,I,r2,W,G,V,r6⟩:=A.hp a _ j;obtain⟨_,c',g',O,s1,s2,s3,C,U,S⟩:=x.hp a _ ha;rw[s1] at I;cases I;rw[C] at G;cases G;obtain⟨u,X,r⟩:=U.get Y;have f:RP m (fun c=>F c∨Dp (σ b)=some c) (htag (hdel H b)) σ nx (.p (.lst e cs n)) u:=by
  cases r with
  |vec hb' J h=>exact .p (c3 _ ((h n (by simp[htag,K,HB.tag])).2 rfl))
 obtain⟨M,y⟩:=A.change (m':=m) (b0:=a) (x':=.EX e' (ds.set k (.p (.lst e cs n))) o) (s':=σ a) j (ab _) (fun _=>rfl) (ab _) (fun _ _ _=>rfl) (fun _ h _ _=>h) (fun c J=>.inl J) (by
  refine⟨_,_,q,s1,s2,W,C,?_,S⟩;have:q=q.set k u:=by
   apply bj;grind
  rw[this];exact(V.set k f).mono (fun d Z=>⟨Z,rfl⟩) (EJ (x':=.EX e' (ds.set k (.p (.lst e cs n))) o) j (ab _) fun _=>rfl) (ab _))
 rw[bP] at M y;exact⟨_,σ,M,(h2.step N x).step y A,(h3.trans N).trans y⟩
theorem kL{Γ:Nat→Option (List Value×TypeId)}{m:Mem}{F:Nat→Prop}{σ:Nat→Value}{t:Tr Value}{b tag off:Nat}{o:Operand}{e:TypeId}{cs:List PV}(a:Ctx Γ m F σ H nx)(d:RL m F (htag H) σ nx L t)(h:AU Γ L o=some (.E8 b tag off))(f:hget H b=some (.EX e cs tag)) :
 ∃c k g,ev t o=.pointer (some ⟨c,off,some g⟩)∧σ b=.slice (some ⟨c,0,none⟩) k g:=by
 have:=Bz a d h;cases this with
 |E8 r q j =>
  obtain⟨_,p⟩:=j tag (by simp[htag,f,HB.tag]);grind
theorem b2l{Γ:Nat→Option (List Value×TypeId)}{m:Mem}{F:Nat→Prop}{σ:Nat→Value}{t:Tr Value}{b tag off len:Nat}{o:Operand}{e:TypeId}{cs:List PV}(a:Ctx Γ m F σ H nx)(c:RL m F (htag H) σ nx L t)(h:AU Γ L o=some (.vec b tag off len))(d:hget H b=some (.EX e cs tag)) :
 FU (σ b) off len (ev t o):=by
 have:=Bz a c h;cases this with
 |vec j g f=>exact(f tag (by simp[htag,d,HB.tag])).2 rfl
theorem Aa.c2f{t:TypeId}{x r:Operand}{e:TypeId}{cs:List PV}{b tag sz:Nat}{k:IntKind}{i:Nat}(z:AU E.Γ L x=some (.vec b tag 0 tag))(h:hget H b=some (.EX e cs tag))(C:AU E.Γ L r=some (.p (.int k (i:Int))))
 (A:elemSize E.P t=some sz) (X:i<tag) (q:Q (.E8 b tag (i*sz)) H nx):Aa E w ⟨dst,.indexAddr t x r,ty,pos,af,gd⟩ L H nx Q :=
 Aa.quiet q fun m F σ N o s=>by
  obtain⟨Y,y,J,I,G⟩:=J6 A;have f:=CQ o s C;have a:=b2l o s z h;obtain⟨d,c,g,M,u,W,V,U,S,O⟩:=o.hp b _ h;rw[u] at a;simp only[FU] at a;have K:(0:Int)≤(i:Int):=by omega
  have j:(i:Int)<(tag:Int):=by omega
  refine⟨.pointer (some ⟨c,i*sz,some g⟩),fun _=>by simp only[BO,FI,J,a,f,I,K,j,and_self,if_true,G,Nat.zero_add,Int.toNat_natCast],.E8 d rfl fun n B=>?_⟩;simp only[htag,h,HB.tag,Option.map_some,Option.some.injEq,Tg.vec.injEq] at B;grind
theorem Aa.c4z{t:TypeId}{a:Operand}{b n off:Nat}{e:TypeId}{cs:List PV}{r:PV}(y:AU E.Γ L a=some (.E8 b n off))(f:hget H b=some (.EX e cs n))(u:Gz E.P t=some false)(M:cs[off]?=some r)(q:Q r H nx):Aa E w ⟨dst,.load t a,ty,pos,af,gd⟩ L H nx Q :=
 Aa.quiet q fun m F σ J h G=>by
  obtain⟨c,k,g,C,B⟩:=kL h G y f;obtain⟨_,O,N,I,d,s,K,p,o,j⟩:=h.hp b _ f;rw[B] at d;cases d;obtain⟨v,A,z⟩:=jS (P:=E.P) (t:=t) (a:=⟨c,off,some g⟩) (x:=r) p s rfl rfl (Dv.drop off o) (KA j _) (by
   simp only[uK,u];simp_all)
  exact⟨v,fun _=>by simp only[BO,FI,C,A,Option.map_some],z⟩
theorem Aa.c1w{t:TypeId}{a x:Operand}{b tag off:Nat}{e:TypeId}{cs:List PV}{r:PV}{i:TypeInfo}(Y:AU E.Γ L a=some (.E8 b tag off))(S:AU E.Γ L x=some r)(s:hget H b=some (.EX e cs tag))(U:Uh r)
 (X:E.P.info? t=some i) (hl:(Jt r).length=i.size) (h0:0<i.size) (W:off+i.size≤cs.length) (q:Q (.D5 []) (hput H b (.EX e (Dh cs off (Jt r)) tag)) nx):Aa E true ⟨dst,.store t a x,ty,pos,af,gd⟩ L H nx Q:=by
 intro m F σ o y K;obtain⟨c,k,g,h3,u⟩:=kL y K Y s;obtain⟨J,Z⟩:=LW U (Bz y K S);obtain⟨V,c',g',p,G,N,C,r4,B,M⟩:=y.hp b _ s;rw[u] at G;cases G;have I:=J.length;have A:=B.length;have z:LM E.P t ⟨c,off,some g⟩ (ev o x) m=some (m.put c (.cells (splice p off (ev o x).cells.toList) e g false)):=by
  unfold LM Gu;rw[X];simp only[NK,Option.getD_some,beq_self_eq_true,Bool.true_and,Bool.and_eq_true,decide_eq_true_eq];grind
 have f:∀d,c≠d→(m.put c (.cells (splice p off (ev o x).cells.toList) e g false)).get d=m.get d:=fun d j=>by rw[Mem.get_put,if_neg j]
 obtain⟨c1,c2⟩:=y.change (m':=m.put c (.cells (splice p off (ev o x).cells.toList) e g false)) (x':=.EX e (Dh cs off (Jt r)) tag) (s':=σ b) s (ab _) (fun _=>rfl) (ab _)
  (fun d _ j=>f d fun e=>j (by rw[u,e];rfl)) (fun k k1 k2 O=>by
   have:=O c (by rw[u];rfl);simp only[Mem.put];omega) (fun d j=>.inl j) (by
   refine⟨c,g,splice p off (ev o x).cells.toList,u,N,C,by rw[Mem.get_put,if_pos rfl],?_,J4 _ M Z⟩;refine(Dv.splice off B J).mono (fun d j=>⟨j,f d fun e=>C (e▸j)⟩) (EJ (x':=.EX e (Dh cs off (Jt r)) tag) s (ab _) fun _=>rfl) (ab _))
 refine Gy.op (v:=undef) (fun _=>?_) ⟨_,_,_,F,_,q,c1,.D5 .nil,c2,fun h=>by cases h⟩;simp only[BO,FI,h3,z,Option.map_some]
end Go.Vm
namespace Go.Vm
open Go.Am
section
variable {E:Env}{L:Vm.Frame}{H:Vm.Heap}{nx:Nat}{Q:PV→Vm.Heap→Nat→Prop}{w:Bool}{dst:Option Tmp}{ty:TypeId}{pos:String}{af:Array Edge}{gd:Option (Nat×Bool)}
theorem Aq.c3b(b:Nat){n:Nat}{e:TypeId}{cs:List FV}(cs':List FV){z:Bool}(d:hget H b=some (.vec e cs n z))(h:JB cs cs'):Aq E L H nx L (hput H b (.vec e cs' n z)) nx:=fun B m F σ t a o k=>by
 have g:=RB.le (Kw.vec (n:=n) (z:=z) (e:=e) h rfl) (a.hp b _ d).2;obtain⟨p,f⟩:=a.change (m':=m) (b0:=b) (x':=.vec e cs' n z) (s':=σ b) d (Xq.refl _) (fun _=>rfl) (ab _) (fun _ _ _=>rfl) (fun _ h _ _=>h) (fun c j=>.inl j) g;exact⟨F,_,p,o.step f a,k.trans f⟩
theorem Aq.uV(d j:Nat){b n k:Nat}{e:TypeId}{cs:List FV}{z:Bool}(q:Fv L d=some (.vec b n 0 k))(r:hget H b=some (.vec e cs n z))(W:0<n)(X:j≤cs.length) :
 Aq E L H nx ((d,.p (.lst e (cs.take j) k))::L) (hdel H b) nx:=fun B m F σ t s A S=>by
 obtain⟨U,C⟩:=o9 s r;refine⟨_,σ,U,fun i v f=>?_,S.trans C⟩;rw[Ed] at f;by_cases x:d=i
 ·rw[if_pos x] at f;cases f
  have:=A d _ q;subst x;generalize Cm t d=u at this;cases this with
  |vec O Y h =>
   have a:=(h n (by simp[htag,r,HB.tag])).2 rfl;obtain⟨_,N⟩:=s.hp b _ r;rcases N with⟨o,M,K⟩|⟨c,g,G,o,M,K,J,y,I,V⟩
   ·omega
   ·rw[o] at a
    subst a;refine .p (.lst (.inr (by rw[o];rfl)) J (ws:=G.take j) ?_ ((Dt.take j y).mono fun d q=>⟨.inl q,rfl⟩) (Vw I _));have:=y.length;unfold takeN;grind
 ·rw[if_neg x] at f
  exact(A i v f).step C s
end
section
variable {P:Program}
structure d4u(P:Program)(t e:TypeId):Prop where
 arr:P.underlying t=some (.array 2 e)
 elt:P.underlying e=some (.int .i64)
 agg:Gz P e=some false
 sz:(P.info? e).map (·.size)=some 1
def a2V(a b:Int):Value:=.agg #[.int .i64 a,.int .i64 b]
abbrev c5n:=List ((Int×Int)×Int)
def d2x(es:c5n):List (FV×FV):=es.map fun x=>(.agg [.int .i64 x.1.1,.int .i64 x.1.2],.int .i64 x.2)
def c5o:c5n→Int→Int→Option Int
 |[],_,_=>none
 |x::es,a,b=>if a=x.1.1∧b=x.1.2 then some x.2 else c5o es a b
variable {E:Env}{L:Vm.Frame}{H:Vm.Heap}{nx:Nat}{Q:PV→Vm.Heap→Nat→Prop}{w:Bool}{dst:Option Tmp}{ty:TypeId}{pos:String}{af:Array Edge}{gd:Option (Nat×Bool)}
end
section
variable {E:Env}{L:Frame}{H:Heap}{nx:Nat}
theorem Aq.fresh(e:TypeId):Aq E L H nx L ((nx,.vec e [] 0 true)::H) (nx+1):=fun B m F σ t a g f=>by
 obtain⟨h,c⟩:=U0 e a;exact⟨F,_,h,fun i v d=>(g i v d).step c a,f.trans c⟩
theorem Aq.b2s(a k b:Nat){e e':TypeId}{ds:List PV}{o:Nat}(z:hget H a=some (.EX e' ds o))(U:ds[k]?=some (.p (.val (.slice none 0 0))))(C:hget H b=some (.vec e [] 0 true)) :
 Aq E L H nx L (hput H a (.EX e' (ds.set k (.vec b 0 0 0)) o)) nx:=fun B m F σ t q Y X=>by
 obtain⟨y,s⟩:=q.hp b _ C;have f:σ b=Df:=by
  rcases s with⟨_,_,h⟩|⟨c,g,j,_,_,_,_,_,_,h⟩
  ·grind
  grind
 have O:RP m F (htag H) σ nx (.vec b 0 0 0) Df:=by
  refine .vec y rfl fun n x=>?_
  have:htag H b=some (.vec 0):=by unfold htag;rw[C];rfl
  rw[this] at x;simp only[Option.some.injEq,Tg.vec.injEq] at x;subst x;refine⟨ab _,fun _=>?_⟩;rw[f];exact⟨rfl,rfl,rfl⟩
 obtain⟨_,c,g,j,N,M,K,J,A,I⟩:=q.hp a _ z;obtain⟨u,S,r⟩:=A.get U;have hu:u=Df:=by cases r with|p h=>cases h;rfl
 obtain⟨Z,G⟩:=q.change (m':=m) (b0:=a) (x':=.EX e' (ds.set k (.vec b 0 0 0)) o) (s':=σ a) z (ab _) (fun _=>rfl) (ab _) (fun _ _ _=>rfl) (fun _ h _ _=>h) (fun c W=>.inl W) (by
  refine⟨c,g,j,N,M,K,J,?_,I⟩;have:j=j.set k Df:=by
   apply bj;grind
  rw[this];exact(A.set k O).mono (fun d V=>⟨V,rfl⟩) (EJ (x':=.EX e' (ds.set k (.vec b 0 0 0)) o) z (ab _) fun _=>rfl) (ab _))
 exact⟨_,_,Z,Y.step G q,X.trans G⟩
variable {Q:PV→Heap→Nat→Prop}{dst:Option Tmp}{ty:TypeId}{pos:String}{af:Array Edge}{gd:Option (Nat×Bool)}
end
def Cj(s:Nat):Nat→(Nat→HB)→Heap
 |0,_=>[]
 |n+1,f=>(s+n,f n)::Cj s n f
theorem Hu{s:Nat}{f:Nat→HB}:∀{n j:Nat},j<n→hget (Cj s n f) (s+j)=some (f j)
 |0,_,h=>by omega
 |n+1,j,h=>by
  unfold Cj;rw[Bv];by_cases e:n=j
  ·grind
  ·rw[if_neg (by omega)];exact Hu (by omega)
theorem QJ{s:Nat}{f:Nat→HB}:∀{n b:Nat},b<s∨s+n≤b→hget (Cj s n f) b=none
 |0,_,_=>rfl
 |n+1,b,h=>by
  unfold Cj;rw[Bv,if_neg (by omega)];exact QJ (by omega)
theorem aI{s:Nat}{f g:Nat→HB}:∀{n:Nat},(∀j,j<n→f j=g j)→Cj s n f=Cj s n g
 |0,_=>rfl
 |n+1,h=>by
  unfold Cj;rw[h n (by omega),aI fun j a=>h j (by omega)]
theorem Wq{s:Nat}{f:Nat→HB}{y:HB}:∀{n j:Nat},j<n→hput (Cj s n f) (s+j) y=Cj s n fun i=>if i=j then y else f i
 |0,_,h=>by omega
 |n+1,j,h=>by
  unfold Cj;simp only[hput];by_cases e:n=j
  ·subst e
   have a:∃h,Nat.decEq (s+n) (s+n)=.isTrue h:=⟨rfl,by grind⟩
   obtain⟨_,a⟩:=a;rw[a,if_pos rfl];simp only;congr 1
   exact aI fun i c=>by grind
  ·have a:∃h,Nat.decEq (s+n) (s+j)=.isFalse h:=⟨by omega,by grind⟩
   obtain⟨_,a⟩:=a;rw[a,if_neg e];rw[Wq (by omega)]
theorem CO{a b:Nat}{x:HB}{H:Heap}{r:Option HB}(h:a≠b)(t:hget H b=r):hget ((a,x)::H) b=r:=by rw[Bv,if_neg h];exact t
theorem Om{a b:Nat}{x y:HB}{H H':Heap}(h:a≠b)(t:hput H b y=H'):hput ((a,x)::H) b y=(a,x)::H':=by
 simp only[hput];cases hd:Nat.decEq a b with
 |isTrue e=>omega
 |isFalse _=>grind
theorem En{b c:Nat}{y:HB}{H:Heap}{r:Option HB}(h:b≠c)(t:hget H c=r):hget (hput H b y) c=r:=by rw[Fq,if_neg h];exact t
theorem UM{b c:Nat}{x y:HB}(h:b≠c):∀{H:Heap},hput (hput H b x) c y=hput (hput H c y) b x
 |[]=>rfl
 |(a,z)::H=>by
  cases h1:Nat.decEq a b with
  |isTrue e =>
   cases h2:Nat.decEq a c with
   |isTrue d=>omega
   |isFalse _=>simp only[hput,h1,h2]
  |isFalse _ =>
   cases h2:Nat.decEq a c with
   |isTrue d=>simp only[hput,h1,h2]
   |isFalse _=>simp only[hput,h1,h2,UM h (H:=H)]
theorem YB{b c:Nat}{x y:HB}{H H':Heap}(h:b≠c)(t:hput H c y=H'):hput (hput H b x) c y=hput H' b x:=by rw[UM h,t]
theorem eG:∀{H T:Heap} {b:Nat},hget (H++T) b=match hget H b with|some x=>some x|none=>hget T b
 |[],_,_=>rfl
 |(a,x)::H,T,b=>by
  rw[List.cons_append,Bv,Bv];by_cases e:a=b
  ·grind
  ·rw[if_neg e,if_neg e];exact eG
theorem BF.tail{k s:Nat}{f:Nat→HB}{H:Heap}:∀{n:Nat},(∀j,j<n→hget H (s+j)=some (f j))→s+n≤k→(∀j,j<n→(f j).under k)→BF k (Cj s n f) H
 |0,_,_,_=>trivial
 |n+1,h,hk,hu=>⟨⟨by omega,hu n (by omega),f n,h n (by omega),.refl _⟩,BF.tail (fun j a=>h j (by omega)) (by omega) fun j a=>hu j (by omega)⟩
section
variable {E:Env}{L:Frame}{H:Heap}{nx:Nat}
theorem OH{c a:Heap}(h:∀b,hget c b=hget a b):htag c=htag a:=by
 unfold htag;grind
theorem a3o{d a:Heap}(h:∀b,hget d b=hget a b){σ:Nat→Value}{c:Nat}(e:own d σ c):own a σ c:=by
 obtain⟨b,x,g,f⟩:=e;exact⟨b,x,(h b).symm.trans g,f⟩
theorem Ctx.congr{Γ:Nat→Option (List Value×TypeId)}{m:Mem}{F:Nat→Prop}{σ:Nat→Value}{e a:Heap}(h:∀b,hget e b=hget a b)(c:Ctx Γ m F σ e nx):Ctx Γ m F σ a nx where
 fr:=c.fr
 hp b x hb:=by
  rw[← OH h];exact c.hp b x ((h b).trans hb)
 sep b b' x x' d h1 h2:=c.sep b b' x x' d ((h b).trans h1) ((h b').trans h2)
 gl:=c.gl
theorem Step.congr{m m':Mem}{F F':Nat→Prop}{σ a:Nat→Value}{H0 f e:Heap}{nx d:Nat}(h:∀b,hget f b=hget e b)(s:Step m F σ H0 nx m' F' a f d):Step m F σ H0 nx m' F' a e d where
 size:=s.size
 keep:=s.keep
 KP:=s.KP
 KO:=s.KO
 JF c hc ho:=s.JF c hc (a3o (fun b=>(h b).symm) ho)
 Xd:=s.Xd
 names:=by rw[← OH h];exact s.names
 low:=s.low
theorem Aq.congr{d:Frame}{f e:Heap}{a:Nat}(h:∀b,hget f b=hget e b)(g:Aq E L H nx d f a):Aq E L H nx d e a:=fun B m F σ t o k j=>by
 obtain⟨r,c,q,s,p⟩:=g B m F σ t o k j;refine⟨r,c,q.congr h,?_,p.congr h⟩;rw[← OH h];omega
theorem Aq.refl:Aq E L H nx L H nx:=fun B m F σ t d c a=>⟨F,σ,d,c,a⟩
theorem Aq.freshN'(e:TypeId):∀n:Nat,Aq E L H nx L (Cj nx n (fun _=>.vec e [] 0 true)++H) (nx+n)
 |0=>Aq.refl
 |n+1=>(Aq.freshN' e n).trans (Aq.fresh e)
theorem Aq.b2d(e:TypeId)(n:Nat)(a:∀b x,hget H b=some x→b<nx):Aq E L H nx L (H++Cj nx n (fun _=>.vec e [] 0 true)) (nx+n) :=
 (Aq.freshN' e n).congr fun b=>by
  rw[eG,eG];rcases aq b nx with h|h
  ·rw[QJ (.inl h)]
   cases hget H b<;>rfl
  grind
theorem Ot{a n:Nat}{x:HB}{T:Heap}(h:a<n)(t:∀b y,hget T b=some y→b<n):∀b y,hget ((a,x)::T) b=some y→b<n:=fun b y c=>by
 rw[Bv] at c;grind
theorem a0t{n:Nat}:∀b y,hget ([]:Heap) b=some y→b<n:=fun _ _ h=>by cases h
theorem a9y{σ:Nat→Value}{m:Mem}{F:Nat→Prop}{b:Nat}{e:TypeId}{Γ:Nat→Option (List Value×TypeId)}(o:Ctx Γ m F σ H nx)(k:hget H b=some (.vec e [] 0 true)):RP m F (htag H) σ nx (.vec b 0 0 0) Df:=by
 obtain⟨j,d⟩:=o.hp b _ k;have a:σ b=Df:=by
  rcases d with⟨_,_,h⟩|⟨c,g,p,_,_,_,_,_,_,h⟩
  ·grind
  grind
 refine .vec j rfl fun n f=>?_
 have:htag H b=some (.vec 0):=by unfold htag;rw[k];rfl
 rw[this] at f;simp only[Option.some.injEq,Tg.vec.injEq] at f;subst f;refine⟨ab _,fun _=>?_⟩;rw[a];exact⟨rfl,rfl,rfl⟩
theorem Aq.useCells(a s:Nat){e e':TypeId}{d:Nat}{n:Nat}:∀(r:Nat),(∀j,j<n→hget H (s+j)=some (.vec e [] 0 true))→(∀j,j<n→s+j≠a)→hget H a=some (.EX e' (List.replicate n (.p (.val (.slice none 0 0))) ) d) →
 r≤n→Aq E L H nx L (hput H a (.EX e' ((List.range r).map (fun j=>.vec (s+j) 0 0 0)++List.replicate (n-r) (.p (.val (.slice none 0 0)))) d)) nx
 |0,_,_,ha,_=>Aq.refl.congr fun b=>by
  rw[Fq];by_cases e:a=b
  ·subst e;rw[if_pos rfl,ha];rfl
  ·rw[if_neg e]
 |r+1,hs,hne,ha,hr=>by
  have f:=Aq.useCells a s r hs hne ha (by omega);refine f.trans (Aq.congr ?_ (Aq.b2s a r (s+r) (by rw[Fq,if_pos rfl,ha];rfl) ?_ (by rw[Fq,if_neg (Ne.symm (hne r (by omega)))];exact hs r (by omega))))
  ·intro b
   simp only[Fq];by_cases e:a=b
   ·subst e
    simp only[if_true,ha,Option.map_some];congr 2
    rw[gF,bk,fX,cq];rw[fj _ _ (by simp)];congr 1
    rw[aM,eV,cG];obtain⟨k,c⟩:∃k,n-r=k+1:=⟨n-r-1,by omega⟩
    rw[c,show n-(r+1)=k by omega];rfl
   ·simp only[if_neg e]
  ·rw[bm (by simp)]
   rw[aM,eV,cG];obtain⟨k,c⟩:∃k,n-r=k+1:=⟨n-r-1,by omega⟩
   rw[c];rfl
end
section
variable {E:Env}{L:Frame}{H:Heap}{nx:Nat}{Q:PV→Heap→Nat→Prop}
variable {dst:Option Tmp}{ty:TypeId}{pos:String}{af:Array Edge}{gd:Option (Nat×Bool)}
theorem Aa.congr{w:Bool}{o:Oper}{f:PV→Heap→Nat→Prop}(h:Aa E w o L H nx f)(j:∀r H' a,f r H' a→∃c,(∀b,hget H' b=hget c b)∧Q r c a):Aa E w o L H nx Q:=fun m F σ t p k=>by
 refine(h m F σ t p k).mono ?_;rintro v m' ⟨r,H',a,F',d,q,x,y,u,s⟩;obtain⟨c,e,g⟩:=j r H' a q;refine⟨r,c,a,F',d,g,x.congr e,?_,u.congr e,s⟩;rw[← OH e];omega
def vF(ρ:Nat→Nat)(H:Heap):Heap→Prop
 |[]=>True
 |(i,x)::Hc=>hget H (ρ i)=some (x.rn ρ)∧vF ρ H Hc
theorem vF.hin{ρ:Nat→Nat}{H:Heap}:∀{Hc:Heap},vF ρ H Hc→HIn ρ H Hc
 |[],_=>trivial
 |(i,x)::Hc,⟨h1,h2⟩=>⟨⟨_,h1,.refl _⟩,vF.hin h2⟩
theorem vF.get{ρ:Nat→Nat}{H:Heap}:∀{Hc:Heap},vF ρ H Hc→∀i x,hget Hc i=some x→hget H (ρ i)=some (x.rn ρ)
 |[],_,_,_,h=>by cases h
 |(j,y)::Hc,⟨h1,h2⟩,i,x,h=>by
  rw[Bv] at h;by_cases e:j=i
  ·grind
  ·rw[if_neg e] at h;exact vF.get h2 i x h
def allIn:Nat→Heap→Bool
 |0,_=>true
 |n+1,Hc=>(hget Hc n).isSome&&allIn n Hc
theorem jC{Hc:Heap}:∀{n i:Nat},allIn n Hc=true→i<n→(hget Hc i).isSome=true
 |0,_,_,h=>by omega
 |n+1,i,h,hi=>by
  simp only[allIn,Bool.and_eq_true] at h;by_cases e:i=n
  ·grind
  ·exact jC h.2 (by omega)
theorem Aa.b8d{G:Operand}{args:Array Operand}{U:Array TypeId}{g:FuncId}{C cs Bh ac:List PV}{Hc:Heap}{x:FV}(ns:List Nat)(N:D7 E g ac Hc ns.length x)
 (M:AU E.Γ L G=some (.clo g C cs)) (S:evs E.Γ L args.toList=some Bh) (A:PE (C++Bh++cs) (CV.rn (rho ns nx) ac)) (J:CV.under ns.length ac) (B:LK ns.length Hc) (hin:vF (rho ns nx) H Hc) (s:allIn ns.length Hc=true) (u:ns.Nodup) (z:∀b∈ns,b<nx) (q:Q (.p x) H nx) :
 Aa E true ⟨dst,.call { callee:=.value G,args:=args,argTypes:=U },ty,pos,af,gd⟩ L H nx Q:=by
 have K:∀i,ns.length≤i→rho ns nx i=nx+(i-ns.length):=fun i c=>a7k c
 have o:∀i j,rho ns nx i=rho ns nx j→ns.length≤i→ns.length≤j→i=j:=fun i j e c V=>by
  grind
 refine Aa.congr (Aa.ZJ M S A J B hin.hin u z (fun h=>by cases h) N (Q:=fun r H' a=>r=.p x∧(∀b,hget H' b=hget H b)∧a=nx) ?_) fun r H' a ⟨h1,h2,h3⟩=>⟨H,h2,by grind⟩
 rintro r H' a ⟨rfl,rfl,rfl⟩;refine⟨rfl,fun b=>?_,by omega⟩;rcases Lp (k:=ns.length) (ρ:=rho ns nx) (H:=merge ns (rho ns nx) H' H) (H':=H') (b:=b) o with⟨i,c,X,I,W⟩|⟨_,e⟩
 ·cases d:hget H' i with
  |none=>rw[d] at I;simp at I
  |some y=>have:=(B.get i y d).1;omega
 ·rw[e]
  cases c:idx ns b with
  |none=>rw[Gs c]
  |some i =>
   have d:=bH c;have O:rho ns nx i=b:=b3o d;rw[KL c];cases h1:hget H b with
   |none=>rfl
   |some y =>
    cases h2:hget H' i with
    |none =>
     have f:i<ns.length:=by
      rcases aq i ns.length with h|h
      ·exact h
      ·rw[aL h] at d;cases d
     have:=jC s f;rw[h2] at this;cases this
    |some x =>
     have:=hin.get i x h2;rw[O,h1] at this;simpa using this.symm
end
end Go.Vm
