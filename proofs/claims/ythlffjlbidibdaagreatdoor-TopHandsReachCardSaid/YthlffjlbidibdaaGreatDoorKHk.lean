/-
  Texts of a proof, merged (OrC, OrD, OrE, VmG, OrN, TraE, PieA, PieP, Vm31, Vm36, Vm32). Conditions: in each statement.
-/
import Derived.Lib.SlicesCompact
import Derived.Test.YthlffjlbidibdaaGreatDoorKHj
set_option linter.unusedSimpArgs false
set_option autoImplicit true
set_option relaxedAutoImplicit true
set_option linter.unusedVariables false
set_option linter.unusedSectionVars false
set_option maxRecDepth 100000
set_option maxHeartbeats 8000000
abbrev bh:=@List.map_append
abbrev bx:=@Decidable.byContradiction
abbrev cf:=@List.mem_iff_getElem
abbrev eT:=@List.pairwise_iff_getElem
abbrev gO:=@List.mem_take_iff_getElem
abbrev iB:=@List.pairwise_append
namespace Go.Proofs.YthlffjlbidibdaaGreatDoor
open Go Go.Am Go.Vm
attribute [local irreducible] Aa Ah Ai Ad AL Ak Bf BK Bj Aj Vm.Done Bv AP
attribute [local irreducible] Cb Bg
theorem V6(a c:Int):Ak env 70 [.agg [.int .i64 a,.int .i64 c]] (.p (.int .i64 (XK a c))):=by
 unfold XK;refine Ak.enter (Af (by decide)) Tryz.func70 rfl (by kernel_rfl) (by simp[Tryz.ntmps70]) ?_
 repeat' (first|refine Fj ?_|(apply Ah.guard;rfl;rfl)|(apply b8;rfl)|(apply c8;rfl)|(intro _;try omega))
 all_goals first
  |(rw[if_pos (by omega)];(refine aa ?_;try rfl);done)
  |(rw[if_neg (by omega),if_pos (by omega)];(refine aa ?_;try rfl);done)
  |(rw[if_neg (by omega),if_neg (by omega)];(refine aa ?_;try rfl);done)
theorem yK:XJ Tryz.prog 255=true:=by kernel_rfl
theorem c8j(x y:Drw):Vm.jT Tryz.prog 255 (Enc.enc x) (Enc.enc y)=some (decide (x=y)):=by
 show some (decide (x.rank=y.rank)&&(decide (x.shift=y.shift)&&true))=_;by_cases h:x=y
 ·grind
 ·have:¬ (x.rank=y.rank∧x.shift=y.shift):=fun c=>h (by cases x;simp_all)
  by_cases a:x.rank=y.rank<;>simp_all
theorem gX{α:Type}[Inhabited α]{a:α}{l:List α}:a∈l↔∃i,i<l.length∧gi l i=a:=by
 constructor
 ·intro h
  obtain⟨i,c,e⟩:=er h;exact⟨i,c,by simp[gi,List.getElem?_eq_getElem c,e]⟩
 ·rintro⟨i,c,e⟩
  rw[← e];simp only[gi,List.getElem?_eq_getElem c,Option.getD_some];simp
theorem aj{α:Type}[Inhabited α]{l:List α}{i k:Nat}(h:i<k):gi (l.take k) i=gi l i:=by simp[gi,List.getElem?_take,h]
theorem EH{α:Type}[Inhabited α]{l:List α}{k:Nat}(a:k<l.length):l.take (k+1)=l.take k++[gi l k]:=by
 simp[gi,List.getElem?_eq_getElem a]
theorem c2b
 (j:AY env.Γ L f=some (.clo 214 a cs)) (k:evs env.Γ L args.toList=some xs) (d:Tryz.f214.body=some c) (g:(a++xs++cs).length≤Tryz.f214.ntmps)
 (h:Ad env nx c (CS 0 (a++xs++cs)) H nx (AP env.P Tryz.f214.results.toList Q)):Aa env true ⟨dst,.call { callee:=.value f,args:=args,argTypes:=m },ty,pos,af,gd⟩ L H nx Q:=by
 have e:(match Tryz.f214.body with|some c=>IV env.G Tryz.f214 c|none=>false)=true:=by kernel_rfl
 rw[d] at e;exact Aa.inline rfl j k (Af (by decide)) Tryz.func214 d e g h
theorem jU(l:List Drw)(d:Drw)(n:l.length<1000000):Ak env 201 [.lst 255 (cells l) l.length,.agg (Enc.enc d)] (.p (.bool (decide (d∈l)))):=by
 refine Ak.enter (Af (by decide)) Tryz.func201 rfl (by kernel_rfl) (by simp[Tryz.ntmps201]) ?_
 repeat' (first|(apply c2b;rfl;rfl;rfl;exact le_dec rfl)|refine go1 ?_|fail)
 refine eD (fun k:Nat=>[(0,lst 255 l),(3,.ref 1 0),(7,.p (.int .i64 (l.length:Int))),(8,.p (.int .i64 (k:Int)))]) (fun _=>[(1,.box 255 ((Enc.enc d).map .p)),(0,.box 255 ((Enc.enc d).map .p))]) 2 (fun k=>k≤l.length∧∀i,i<k→d≠gi l i) (fun k=>l.length-k) 0 (by omega) ⟨by omega,fun i j=>by omega⟩ ⟨by omega,?_,?_⟩ ?_
 ·exact Dh
 ·exact DT
 rintro k ⟨o,a⟩;have c:=c8j d (gi l k);by_cases e:d=gi l k
 ·rw[decide_eq_true e] at c
  repeat' (first|(apply mL;rfl;rfl;exact yK;exact c)|refine b9 ?_|refine KP ?_|(apply AP.ret;rfl)|refine a7 ?_|(apply a8;rfl)|(apply b8;rfl)|(intro _;try omega))
  ·rename_i g
   rw[decide_eq_true (gX.2 ⟨k,by omega,e.symm⟩)];refine aa ?_;refine kx ?_;simp
  ·rename_i g
   rw[decide_eq_false (fun h=>by obtain⟨i,m,f⟩:=gX.1 h;exact a i (by omega) f.symm)]
   (refine aa ?_;try rfl)
 ·rw[decide_eq_false e] at c
  repeat' (first|(apply mL;rfl;rfl;exact yK;exact c)|refine b9 ?_|refine KP ?_|(apply AP.ret;rfl)|refine a7 ?_|(apply a8;rfl)|(apply b5;rfl)|(intro _;try omega))
  ·rename_i g
   refine Aj.normal ⟨k+1,⟨by omega,fun i j=>?_⟩,by omega,⟨by omega,?_,?_⟩⟩
   ·rcases aq i k with h|h
    ·exact a i h
    ·obtain rfl:i=k:=by omega
     exact e
   ·exact Dh
   ·exact DT
  ·rename_i g
   rw[decide_eq_false (fun h=>by obtain⟨i,m,f⟩:=gX.1 h;exact a i (by omega) f.symm)]
   (refine aa ?_;try rfl)
def a7z(rk:List GI)(lo hi:Int):List FV:=[.lst 188 (cells rk) rk.length,.int .i64 lo,.int .i64 hi]
theorem a4g(c:List GI)(d e:Int)(l:List Drw)(m:l.length<1000000)(j:c.length<1000000):Ak env 181 [.agg (a7z c d e),.lst 255 (cells l) l.length] (.p (.int .i64 (gB c.length l))):=by
 unfold gB;refine Ak.enter (Af (by decide)) Tryz.func181 rfl (by kernel_rfl) (by simp[Tryz.ntmps181]) ?_
 repeat' (first|refine Fj ?_|(apply a8;rfl)|(intro _;try omega))
 ·rw[if_pos (by omega)];(refine aa ?_;try rfl)
 rw[if_neg (by omega)];refine eD (fun k:Nat=>[(1,lst 255 l),(2,.ref 0 0),(10,lst 255 l),(11,.p (.int .i64 (l.length:Int))),(12,.p (.int .i64 (k:Int)))]) (fun _=>[(0,.box 263 ((a7z c d e).map .p))]) 1 (fun k=>k≤l.length∧UA c.length l k=UA c.length l 0) (fun k=>l.length-k) 0 (by omega) ⟨by omega,rfl⟩ ⟨by omega,?_,?_⟩ ?_
 ·exact Dh
 ·exact DT
 rintro k ⟨n,h⟩;have f:=jU (l.take k) (gi l k) (by rw[av];omega);rw[av,cD (by omega)] at f;rw[← h];by_cases a:k<l.length
 ·rw[UA,if_pos a]
  generalize hg:decide (gi l k∈l.take k)=g at *;cases g;all_goals
   repeat' (first|refine a6 f ?_|refine b9 ?_|refine KP ?_|apply j6|(apply Ah.guard;rfl;rfl)|(apply kh;rfl;rfl;rfl;rfl;rfl;rfl;omega)|refine a7 ?_|(apply a8;rfl)|(apply b8;rfl)|(apply b5;rfl)|(apply c8;rfl)|(intro _;try omega))
  all_goals try omega
  all_goals first
   |(rw[if_pos (by omega)];(refine aa ?_;try rfl);done)
   |(rw[if_neg (by omega),if_pos (by omega)];(refine aa ?_;try rfl);done)
   |(rw[if_neg (by omega),if_neg (by omega),if_pos (of_decide_eq_true hg)];(refine aa ?_;try rfl);done)
   |(rw[if_neg (by omega),if_neg (by omega),if_neg (of_decide_eq_false hg)]
     refine Aj.normal ⟨k+1,⟨by omega,?_⟩,by omega,⟨by omega,?_,?_⟩⟩
     ·first|rfl|(refine dm ?_ h;symm;(conv=>lhs;rw[UA]);rw[if_pos a,if_neg (by omega),if_neg (by omega),if_neg (of_decide_eq_false hg)])
     ·exact Dh
     ·exact DT)
 ·rw[UA,if_neg a]
  repeat' (first|refine Fj ?_|(apply a8;rfl)|(intro _;try omega))
  all_goals first|omega|(refine aa ?_;try rfl)
theorem a2g(a:List GI)(e f:Int)(q:a.length<1000000)(o:∀i,i<a.length→dJ (gi a i)):Ak env 180 [.agg (a7z a e f)] (.p (.int .i64 (yV a e f))):=by
 have j:=V6 e f;unfold yV;refine Ak.enter (Af (by decide)) Tryz.func180 rfl (by kernel_rfl) (by simp[Tryz.ntmps180]) ?_
 repeat' (first|refine Fj ?_|(apply a8;rfl)|(intro _;try omega))
 ·rw[if_pos (by omega)];(refine aa ?_;try rfl)
 rw[if_neg (by omega)];refine eD (fun k:Nat=>[(1,.ref 0 0),(11,lst 188 a),(12,.p (.int .i64 (a.length:Int))),(13,.p (.int .i64 (k:Int)))]) (fun _=>[(0,.box 263 ((a7z a e f).map .p))]) 1 (fun k=>k≤a.length∧ji a k=ji a 0) (fun k=>a.length-k) 0 (by omega) ⟨by omega,rfl⟩ ⟨by omega,?_,?_⟩ ?_
 ·exact Dh
 ·exact DT
 rintro k ⟨r,n⟩;rw[← n];by_cases c:k<a.length
 ·have d:=(o k c).len
  have m:=Jh (gi a k) d.1 d.2.1 d.2.2;rw[ji,if_pos c];by_cases g:Cb (gi a k)=0
  ·rw[g] at m ⊢
   rw[if_neg (by decide)]
   repeat' (first|refine a6 m ?_|refine b9 ?_|refine Fh ?_|refine a7 ?_|(apply a8;rfl)|(apply b5;rfl)|(intro _;try omega))
   all_goals try omega
   refine Aj.normal ⟨k+1,⟨by omega,?_⟩,by omega,⟨by omega,?_,?_⟩⟩
   ·first|rfl|(refine dm ?_ n;symm;(conv=>lhs;rw[ji]);rw[if_pos c,if_neg (fun h=>h g)])
   ·exact Dh
   ·exact DT
  ·rw[if_pos g,if_pos g]
   repeat' (first|refine a6 m ?_|refine b9 ?_|refine Fh ?_|refine a7 ?_|(apply a8;rfl)|(apply c8;rfl)|(intro _;try omega))
   all_goals first|omega|(refine aa ?_;try rfl)
 ·rw[ji,if_neg c,if_neg (by decide)]
  repeat' (first|refine a6 j ?_|refine go1 ?_|refine a7 ?_|(apply a8;rfl)|(intro _;try omega))
  all_goals first|omega|(refine aa ?_;try rfl)
theorem a9j(a:List GI)(d e:Int)(s:Stp)(q:a.length<1000000)(y:∀i,i<a.length→dJ (gi a i))(C:mV s):Ak env 145 [.agg (a7z a d e),.agg (Enc.enc s)] (.p (.int .i64 (D5 a d e s))):=by
 obtain⟨G,F,x⟩:=C;have f:=a2g a d e q y;have g:=Je s.name (by omega);have n:=Nz s.CW;unfold D5 c0h;refine Ak.enter (Af (by decide)) Tryz.func145 rfl (by kernel_rfl) (by simp[Tryz.ntmps145]) ?_;by_cases u:yV a d e=0
 case neg =>
  rw[if_pos u]
  repeat' (first|refine a6 f ?_|refine go1 ?_|refine a7 ?_|(apply a8;rfl)|(intro _;try omega))
  all_goals first|omega|(refine aa ?_;try rfl)
 rw[u] at f ⊢;rw[if_neg (by decide)];by_cases j:Dx s.name
 case neg =>
  rw[if_pos j];rw[decide_eq_false j] at g
  repeat' (first|refine a6 f ?_|refine a6 g ?_|refine Fh ?_|refine a7 ?_|(apply ei;rfl)|(apply cn;rfl))
  all_goals first|contradiction|omega|(refine aa ?_;try rfl)
 rw[if_neg (fun h=>h j)];rw[decide_eq_true j] at g;by_cases o:QO s.CW=0
 case neg =>
  rw[if_pos o]
  repeat' (first|refine a6 f ?_|refine a6 g ?_|refine a6 n ?_|refine Fh ?_|refine a7 ?_|(apply cn;rfl)|(apply a8;rfl)|(intro _;try omega))
  all_goals first|contradiction|omega|(refine aa ?_;try rfl)
 rw[if_neg (fun h=>h o)];rw[o] at n
 repeat' (first|refine a6 f ?_|refine a6 g ?_|refine a6 n ?_|refine Fh ?_|refine a7 ?_|(apply cn;rfl)|(apply c8;rfl)|(intro _;try omega))
 all_goals try contradiction
 all_goals try omega
 ·rw[if_pos (by omega)];(refine aa ?_;try rfl)
 ·rw[if_neg (by omega),if_pos (by omega)];(refine aa ?_;try rfl)
 rw[if_neg (by omega),if_neg (by omega)];refine eD (fun k:Nat=>[(2,.ref 0 0),(3,.ref 1 0),(36,lst 258 s.Jp),(37,.p (.int .i64 (s.Jp.length:Int))),(38,.p (.int .i64 (k:Int)))]) (fun _=>[(1,.box 200 ((Enc.enc s).map .p)),(0,.box 263 ((a7z a d e).map .p))]) 2 (fun k=>k≤s.Jp.length∧O5 a.length d e s.Jp k=O5 a.length d e s.Jp 0) (fun k=>s.Jp.length-k) 0 (by omega) ⟨by omega,rfl⟩ ⟨by omega,?_,?_⟩ ?_
 ·exact Dh
 ·exact DT
 rintro k ⟨I,r⟩;rw[← r];by_cases c:k<s.Jp.length
 ·have m:=(x k c).draws
  have B:=a4g a d e (gi s.Jp k).draws m q;rw[O5,if_pos c];have A:((k:Int)-1).toNat=k-1:=by omega
  have z:0<k→((k-1:Nat):Int)=(k:Int)-1:=fun h=>by omega
  generalize hD:gB a.length (gi s.Jp k).draws=D at *
  repeat' (first|refine a6 B ?_|refine b9 ?_|(apply pg;rfl;rfl;rfl;omega;omega;rfl)|refine KP ?_|(apply Ah.guard;rfl;rfl)|(apply Ai.guard;rfl;rfl)|(apply na;rfl;rfl)|refine a7 ?_|(apply lO;rfl;rfl)|(apply mr;rfl;rfl)|(apply a8;rfl)|(apply b8;rfl)|(apply b5;rfl)|(apply c8;rfl)|(intro _;try omega))
  all_goals try omega
  all_goals first
   |(rw[if_pos (by omega)];(refine aa ?_;try rfl);done)
   |(rw[if_neg (by omega),if_pos (by omega)];(refine aa ?_;try rfl);done)
   |(rw[if_neg (by omega),if_neg (by omega),if_pos (by omega)];(refine aa ?_;try rfl);done)
   |(rw[if_neg (by omega),if_neg (by omega),if_neg (by omega)]
     refine Aj.normal ⟨k+1,⟨by omega,?_⟩,by omega,⟨by omega,?_,?_⟩⟩
     ·first|rfl|(refine dm ?_ r;symm;(conv=>lhs;rw[O5]);rw[if_pos c,if_neg (by omega),if_neg (by omega),if_neg (by omega)])
     ·exact Dh
     ·exact DT)
 ·rw[O5,if_neg c]
  repeat' (first|refine Fj ?_|(apply a8;rfl)|(intro _;try omega))
  all_goals first|omega|(refine aa ?_;try rfl)
theorem c2f
 (j:AY env.Γ L f=some (.clo 146 a cs)) (k:evs env.Γ L args.toList=some xs) (d:Tryz.f146.body=some c) (g:(a++xs++cs).length≤Tryz.f146.ntmps)
 (h:Ad env nx c (CS 0 (a++xs++cs)) H nx (AP env.P Tryz.f146.results.toList Q)):Aa env true ⟨dst,.call { callee:=.value f,args:=args,argTypes:=m },ty,pos,af,gd⟩ L H nx Q:=by
 have e:(match Tryz.f146.body with|some c=>IV env.G Tryz.f146 c|none=>false)=true:=by kernel_rfl
 rw[d] at e;exact Aa.inline rfl j k (Af (by decide)) Tryz.func146 d e g h
theorem c3u
 (j:AY env.Γ L f=some (.clo 182 a cs)) (k:evs env.Γ L args.toList=some xs) (d:Tryz.f182.body=some c) (g:(a++xs++cs).length≤Tryz.f182.ntmps)
 (h:Ad env nx c (CS 0 (a++xs++cs)) H nx (AP env.P Tryz.f182.results.toList Q)):Aa env true ⟨dst,.call { callee:=.value f,args:=args,argTypes:=m },ty,pos,af,gd⟩ L H nx Q:=by
 have e:(match Tryz.f182.body with|some c=>IV env.G Tryz.f182 c|none=>false)=true:=by kernel_rfl
 rw[d] at e;exact Aa.inline rfl j k (Af (by decide)) Tryz.func182 d e g h
theorem a7o
 (j:AY env.Γ L f=some (.clo 147 a cs)) (k:evs env.Γ L args.toList=some xs) (d:Tryz.f147.body=some c) (g:(a++xs++cs).length≤Tryz.f147.ntmps)
 (h:Ad env nx c (CS 0 (a++xs++cs)) H nx (AP env.P Tryz.f147.results.toList Q)):Aa env true ⟨dst,.call { callee:=.value f,args:=args,argTypes:=m },ty,pos,af,gd⟩ L H nx Q:=by
 have e:(match Tryz.f147.body with|some c=>IV env.G Tryz.f147 c|none=>false)=true:=by kernel_rfl
 rw[d] at e;exact Aa.inline rfl j k (Af (by decide)) Tryz.func147 d e g h
theorem pO(ks:List sU)(l:List uD)(C:ks.length<1000000)(I:l.length<1000000)(u:∀i,i<l.length→(gi l i).name.length<1000000):Ak env 100 [.lst 111 (cells ks) ks.length,.lst 207 (cells l) l.length] (.p (.int .i64 (EF ks l))):=by
 unfold EF;refine Ak.enter (Af (by decide)) Tryz.func100 rfl (by kernel_rfl) (by simp[Tryz.ntmps100]) ?_;by_cases B:ks.length>8∨l.length>40
 ·rw[if_pos B]
  repeat' (first|refine Fj ?_|(apply Ah.guard;rfl;rfl)|(apply ei;rfl)|(apply a8;rfl)|(intro _;try omega))
  all_goals first|omega|(refine aa ?_;try rfl)
 rw[if_neg B]
 repeat' (first|refine Fj ?_|(apply Ah.guard;rfl;rfl)|(apply a8;rfl)|(intro _;try omega))
 all_goals try omega
 refine eD (fun k:Nat=>[(0,lst 111 ks),(1,lst 207 l),(17,lst 111 ks),(18,.p (.int .i64 (ks.length:Int))),(19,.p (.int .i64 (k:Int)))]) (fun _=>[]) 0 (fun k=>k≤ks.length∧Ug ks k=Ug ks 0) (fun k=>ks.length-k) 0 (by omega) ⟨by omega,rfl⟩ ⟨by omega,?_,BN.nil⟩ ?_
 ·exact Dh
 rintro k ⟨F,m⟩;by_cases c:k<ks.length
 ·have y:=V6 (gi ks k).lo (gi ks k).hi
  by_cases d:XK (gi ks k).lo (gi ks k).hi=0
  ·rw[d] at y
   repeat' (first|refine a6 y ?_|refine b9 ?_|refine Fh ?_|refine a7 ?_|(apply a8;rfl)|(apply b5;rfl)|(intro _;try omega))
   all_goals try omega
   all_goals try contradiction
   refine Aj.normal ⟨k+1,⟨by omega,?_⟩,by omega,⟨by omega,?_,BN.nil⟩⟩
   ·first|rfl|(refine dm ?_ m;symm;(conv=>lhs;rw[Ug]);rw[if_pos c,if_neg (fun h=>h d)])
   ·exact Dh
  ·have e:Ug ks 0=23:=by rw[← m,Ug,if_pos c,if_pos d]
   rw[if_pos (by rw[e];decide),e]
   repeat' (first|refine a6 y ?_|refine b9 ?_|refine Fh ?_|refine a7 ?_|(apply a8;rfl)|(apply c8;rfl)|(intro _;try omega))
   all_goals first|omega|contradiction|(refine aa ?_;try rfl)
 obtain rfl:k=ks.length:=by omega
 have e:Ug ks 0=0:=by rw[← m,Ug,if_neg (by omega)]
 rw[if_neg (fun h=>h e)]
 repeat' (first|refine Fj ?_|(apply a8;rfl)|(intro _;try omega))
 all_goals try omega
 refine eD (fun k:Nat=>[(0,lst 111 ks),(1,lst 207 l),(27,lst 207 l),(28,.p (.int .i64 (l.length:Int))),(29,.p (.int .i64 (k:Int)))]) (fun _=>[]) 0 (fun k=>k≤l.length∧UJ ks.length l k=UJ ks.length l 0) (fun k=>l.length-k) 0 (by omega) ⟨by omega,rfl⟩ ⟨by omega,?_,BN.nil⟩ ?_
 ·exact Dh
 rintro k ⟨F,m⟩;rw[← m];by_cases c:k<l.length
 case neg =>
  rw[UJ,if_neg c]
  repeat' (first|refine Fj ?_|(apply a8;rfl)|(intro _;try omega))
  all_goals first|omega|(refine aa ?_;try rfl)
 rw[UJ,if_pos c];have s:=Je (gi l k).name (by have:=u k c;omega);by_cases d:Dx (gi l k).name
 case neg =>
  rw[if_pos d];rw[decide_eq_false d] at s
  repeat' (first|refine a6 s ?_|refine b9 ?_|refine Fh ?_|apply j6|refine a7 ?_|(apply a8;rfl)|(apply b8;rfl)|(intro _;try omega))
  all_goals first|omega|contradiction|(refine aa ?_;try rfl)
 rw[if_neg (fun h=>h d)];rw[decide_eq_true d] at s;have z:(gi l k).name∈(l.take k).map uD.name↔∃j,j<k∧(gi l j).name=(gi l k).name:=by
  rw[ba];constructor
  ·rintro⟨a,G,e⟩
   obtain⟨j,d,n⟩:=gX.1 G;rw[av] at d;rw[aj (by omega)] at n;exact⟨j,by omega,by rw[n,e]⟩
  ·rintro⟨j,A,e⟩
   exact⟨gi l j,gX.2 ⟨j,by rw[av];omega,aj A⟩,e⟩
 repeat' (first|refine a6 s ?_|(apply c2f;rfl;rfl;rfl;exact le_dec rfl)|(apply c3u;rfl;rfl;rfl;exact le_dec rfl)|(apply Aa.makeFunc;rfl;rfl)|refine b9 ?_|refine Fh ?_|apply j6|(apply kh;rfl;rfl;rfl;rfl;rfl;rfl;omega)|refine a7 ?_|(apply a8;rfl)|(apply b5;rfl)|(intro _;try omega))
 all_goals try omega
 all_goals try contradiction
 refine eD (fun j:Nat=>[(0,.p (.lst 207 (cells (l.take k)) k)),(1,.clo 147 [] [.ref 0 0]),(7,.p (.int .i64 (k:Int))),(8,.p (.int .i64 (j:Int)))]) (fun _=>[(0,.box 207 ((Enc.enc (gi l k)).map .p))]) 1 (fun j=>j≤k∧∀i,i<j→(gi l i).name≠(gi l k).name) (fun j=>k-j) 0 (by omega) ⟨by omega,fun i hi=>by omega⟩ ⟨by omega,?_,?_⟩ ?_
 ·exact Dh
 ·exact DT
 rintro j ⟨A,f⟩;by_cases q:j<k
 ·have x:gi (l.take k) j=gi l j:=aj q
  have o:(l.take k).length=k:=by rw[av];omega
  generalize hg:decide ((gi l j).name=(gi l k).name)=g at *;have r:decide ((gi (l.take k) j).name=(gi l k).name)=g:=by rw[x];exact hg
  cases g
  ·repeat' (first|(apply a7o;rfl;rfl;rfl;exact le_dec rfl)|(apply oT;rfl;rfl;exact r)|(apply dl (l:=l.take k) (i:=j);rfl;rfl;rfl;omega;exact o)|refine go1 ?_|(apply AP.ret;rfl)|refine a7 ?_|(apply a8;rfl)|(apply b5;rfl)|(intro _;try omega))
   all_goals try omega
   refine Aj.normal ⟨j+1,⟨by omega,fun i hi=>?_⟩,by omega,⟨by omega,?_,?_⟩⟩
   ·rcases aq i j with h|h
    ·exact f i h
    ·obtain rfl:i=j:=by omega
     exact of_decide_eq_false hg
   ·exact Dh
   ·exact DT
  ·rw[if_pos (z.2 ⟨j,q,of_decide_eq_true hg⟩)]
   repeat' (first|(apply a7o;rfl;rfl;rfl;exact le_dec rfl)|(apply oT;rfl;rfl;exact r)|(apply dl (l:=l.take k) (i:=j);rfl;rfl;rfl;omega;exact o)|refine go1 ?_|(apply AP.ret;rfl)|refine a7 ?_|(apply a8;rfl)|(apply b8;rfl)|(intro _;try omega))
   all_goals first|omega|contradiction|(refine aa ?_;try rfl)
 obtain rfl:j=k:=by omega
 rw[if_neg (fun h=>by obtain⟨i,d,n⟩:=z.1 h;exact f i d n)]
 repeat' (first|refine Fj ?_|(apply AP.ret;rfl)|(apply Ah.guard;rfl;rfl)|(apply a8;rfl)|(apply b8;rfl)|(apply b5;rfl)|(apply c8;rfl)|(intro _;try omega))
 all_goals try omega
 all_goals try contradiction
 all_goals first
  |(rw[if_pos (by omega)];(refine aa ?_;try rfl);done)
  |(rw[if_neg (by omega),if_pos (by omega)];(refine aa ?_;try rfl);done)
  |(rw[if_neg (by omega),if_neg (by omega),if_pos (by omega)];(refine aa ?_;try rfl);done)
  |(rw[if_neg (by omega),if_neg (by omega),if_neg (by omega)]
    refine Aj.normal ⟨j+1,⟨by omega,?_⟩,by omega,⟨by omega,?_,BN.nil⟩⟩
    ·first|rfl|(refine dm ?_ m;symm;(conv=>lhs;rw[UJ]);rw[if_pos c,if_neg (fun h=>h d),if_neg (fun h=>by obtain⟨i,d,n⟩:=z.1 h;exact f i d n),if_neg (by omega),if_neg (by omega),if_neg (by omega)])
    ·exact Dh)
attribute [local irreducible] D5 DU EF
theorem Vf{α:Type}[Inhabited α](f:α→List UInt8){l:List α}{k:Nat}(a:k<l.length):(l.take (k+1)).map f=(l.take k).map f++[f (gi l k)]:=by
 rw[EH a,bh];rfl
theorem Vd
 (j:AY env.Γ L f=some (.clo 98 a cs)) (k:evs env.Γ L args.toList=some xs) (d:Tryz.f98.body=some c) (g:(a++xs++cs).length≤Tryz.f98.ntmps)
 (h:Ad env nx c (CS 0 (a++xs++cs)) H nx (AP env.P Tryz.f98.results.toList Q)):Aa env true ⟨dst,.call { callee:=.value f,args:=args,argTypes:=m },ty,pos,af,gd⟩ L H nx Q:=by
 have e:(match Tryz.f98.body with|some c=>IV env.G Tryz.f98 c|none=>false)=true:=by kernel_rfl
 rw[d] at e;exact Aa.inline rfl j k (Af (by decide)) Tryz.func98 d e g h
theorem jY(o:FZ)(d:tV)(j:RD o)(q:c6f d):Ak env 99 [.agg (Enc.enc o),.agg (Enc.enc d)] (.p (.int .i64 (DU o.ranks d))):=by
 have f:=V6 d.lo d.hi;obtain⟨x,u,r⟩:=q;unfold DU;refine Ak.enter (Af (by decide)) Tryz.func99 rfl (by kernel_rfl) (by simp[Tryz.ntmps99]) ?_;by_cases n:XK d.lo d.hi=0
 case neg =>
  rw[if_pos n]
  repeat' (first|refine a6 f ?_|refine go1 ?_|refine a7 ?_|(apply a8;rfl)|(intro _;try omega))
  all_goals first|omega|(refine aa ?_;try rfl)
 rw[n] at f ⊢;rw[if_neg (by decide)]
 repeat' (first|refine a6 f ?_|(apply Aa.makeMap)|refine go1 ?_|refine a7 ?_|(apply cn;rfl)|(apply a8;rfl)|(intro _;try omega))
 all_goals try contradiction
 ·rw[if_pos (by omega)];(refine aa ?_;try rfl)
 rw[if_neg (by omega)];refine eD (fun k:Nat=>[(2,.ref 0 0),(3,.ref 1 0),(6,.mref 2),(23,lst 200 d.stops),(24,.p (.int .i64 (d.stops.length:Int))),(25,.p (.int .i64 (k:Int)))]) (fun k=>[(2,.map (OB ((d.stops.take k).map Stp.name))),(1,.box 114 ((Enc.enc d).map .p)),(0,.box 40 ((Enc.enc o).map .p))]) 3 (fun k=>k≤d.stops.length∧Ux o.ranks d.lo d.hi d.stops k=Ux o.ranks d.lo d.hi d.stops 0) (fun k=>d.stops.length-k) 0 (by omega) ⟨by omega,rfl⟩ ⟨by omega,?_,?_⟩ ?_
 ·exact Dh
 ·exact DT
 rintro k ⟨s,m⟩;rw[← m];by_cases a:k<d.stops.length
 case neg =>
  rw[Ux,if_neg a]
  repeat' (first|refine Fj ?_|(apply a8;rfl)|(intro _;try omega))
  all_goals first|omega|(refine aa ?_;try rfl)
 rw[Ux,if_pos a];have c:=a9j o.ranks d.lo d.hi (gi d.stops k) j.ranks j.rk (r k a);by_cases g:D5 o.ranks d.lo d.hi (gi d.stops k)=0
 case neg =>
  rw[if_pos g]
  repeat' (first|refine a6 c ?_|refine b9 ?_|refine Fh ?_|refine a7 ?_|refine b7 ?_|(apply a8;rfl)|(intro _;try omega))
  all_goals first|omega|contradiction|(refine aa ?_;try rfl)
 rw[g] at c ⊢;rw[if_neg (by decide)];by_cases e:(gi d.stops k).name∈(d.stops.take k).map Stp.name
 ·rw[if_pos e]
  repeat' (first|refine a6 c ?_|(apply Vd;rfl;rfl;rfl;exact le_dec rfl)|refine b9 ?_|refine Fh ?_|(apply AP.ret;rfl)|(apply lR;rfl;rfl;rfl;rfl;rfl;rfl)|refine a7 ?_|refine b7 ?_|(apply cn;rfl)|(apply a8;rfl)|(apply b8;rfl)|(intro _;try omega))
  all_goals first|omega|contradiction|(refine aa ?_;try rfl)
 ·rw[if_neg e]
  repeat' (first|refine a6 c ?_|(apply Vd;rfl;rfl;rfl;exact le_dec rfl)|(apply nf;rfl;rfl;rfl;rfl;rfl;rfl;exact e)|refine b9 ?_|refine Fh ?_|(apply AP.ret;rfl)|(apply lR;rfl;rfl;rfl;rfl;rfl;rfl)|refine a7 ?_|refine b7 ?_|(apply cn;rfl)|(apply a8;rfl)|(apply b8;rfl)|(apply b5;rfl)|(intro _;try omega))
  all_goals try omega
  all_goals try contradiction
  refine Aj.normal ⟨k+1,⟨by omega,?_⟩,by omega,⟨by omega,?_,?_⟩⟩
  ·first|rfl|(refine dm ?_ m;symm;(conv=>lhs;rw[Ux]);rw[if_pos a,if_neg (fun h=>h g),if_neg e])
  ·exact Dh
  ·rw[Vf Stp.name a];exact DT
theorem QX(o:FZ)(n:RD o):Ak env 54 [.agg (Enc.enc o)] (.p (.int .i64 (Ur o))):=by
 have x:=Je o.name (by have:=n.name;omega);have b1:=n.ranks;have b2:=n.Ae;unfold Ur;refine Ak.enter (Af (by decide)) Tryz.func54 rfl (by kernel_rfl) (by simp[Tryz.ntmps54]) ?_;by_cases A:Dx o.name
 case neg =>
  rw[if_pos A];rw[decide_eq_false A] at x
  repeat' (first|refine a6 x ?_|refine Fh ?_|(apply b8;rfl))
  all_goals first|omega|contradiction|(refine aa ?_;try rfl)
 rw[if_neg (fun h=>h A)];rw[decide_eq_true A] at x
 repeat' (first|refine a6 x ?_|(apply Aa.makeMap)|refine Fh ?_|refine a7 ?_|(apply b5;rfl)|(apply c8;rfl)|(intro _;try omega))
 all_goals try contradiction
 ·rw[if_pos (by omega)];(refine aa ?_;try rfl)
 rw[if_neg (by omega)];refine eD (fun k:Nat=>[(1,.ref 0 0),(3,.mref 1),(25,lst 188 o.ranks),(26,.p (.int .i64 (o.ranks.length:Int))),(27,.p (.int .i64 (k:Int)))]) (fun k=>[(1,.map (OB ((o.ranks.take k).map GI.name))),(0,.box 40 ((Enc.enc o).map .p))]) 2 (fun k=>k≤o.ranks.length∧QM o.ranks k=QM o.ranks 0) (fun k=>o.ranks.length-k) 0 (by omega) ⟨by omega,rfl⟩ ⟨by omega,?_,?_⟩ ?_
 ·exact Dh
 ·exact DT
 rintro k ⟨I,j⟩;by_cases c:k<o.ranks.length
 ·have q:=(n.rk k c).len
  have y:=Jh (gi o.ranks k) q.1 q.2.1 q.2.2;by_cases g:Cb (gi o.ranks k)=0
  case neg =>
   have e:QM o.ranks 0=Cb (gi o.ranks k):=by rw[← j,QM,if_pos c,if_pos g]
   rw[e,if_pos g]
   repeat' (first|refine a6 y ?_|refine b9 ?_|refine Fh ?_|refine a7 ?_|(apply a8;rfl)|(intro _;try omega))
   all_goals first|omega|contradiction|(refine aa ?_;try rfl)
  rw[g] at y;by_cases m:(gi o.ranks k).name∈(o.ranks.take k).map GI.name
  ·have e:QM o.ranks 0=9:=by rw[← j,QM,if_pos c,if_neg (fun h=>h g),if_pos m]
   rw[e,if_pos (by decide)]
   repeat' (first|refine a6 y ?_|(apply Vd;rfl;rfl;rfl;exact le_dec rfl)|refine b9 ?_|refine Fh ?_|(apply AP.ret;rfl)|(apply lR;rfl;rfl;rfl;rfl;rfl;rfl)|refine a7 ?_|(apply cn;rfl)|(apply a8;rfl)|(apply b8;rfl)|(intro _;try omega))
   all_goals first|omega|contradiction|(refine aa ?_;try rfl)
  ·repeat' (first|refine a6 y ?_|(apply Vd;rfl;rfl;rfl;exact le_dec rfl)|(apply nf;rfl;rfl;rfl;rfl;rfl;rfl;exact m)|refine b9 ?_|refine Fh ?_|(apply AP.ret;rfl)|(apply lR;rfl;rfl;rfl;rfl;rfl;rfl)|refine a7 ?_|(apply cn;rfl)|(apply a8;rfl)|(apply b8;rfl)|(apply b5;rfl)|(intro _;try omega))
   all_goals try omega
   all_goals try contradiction
   refine Aj.normal ⟨k+1,⟨by omega,?_⟩,by omega,⟨by omega,?_,?_⟩⟩
   ·first|rfl|(refine dm ?_ j;symm;(conv=>lhs;rw[QM]);rw[if_pos c,if_neg (fun h=>h g),if_neg m])
   ·exact Dh
   ·rw[Vf GI.name c];exact DT
 obtain rfl:k=o.ranks.length:=by omega
 have e:QM o.ranks 0=0:=by rw[← j,QM,if_neg (by omega)]
 rw[if_neg (fun h=>h e)]
 repeat' (first|(apply Aa.makeMap)|refine go1 ?_|refine a7 ?_|(apply a8;rfl)|(apply c8;rfl)|(intro _;try omega))
 all_goals try omega
 ·rw[if_pos (by omega)];(refine aa ?_;try rfl)
 ·rw[if_neg (by omega),if_pos (by omega)];(refine aa ?_;try rfl)
 rw[if_neg (by omega),if_neg (by omega)];refine cb (iD 8 111 rfl) ?_;refine eD (fun k:Nat=>[(1,.ref 0 0),(3,.mref 2),(8,.vec 3 ((o.Ae.take k).map fun d=>(⟨d.lo,d.hi⟩:sU)).length 0 ((o.Ae.take k).map fun d=>(⟨d.lo,d.hi⟩:sU)).length),(56,lst 114 o.Ae),(57,.p (.int .i64 (o.Ae.length:Int))),(58,.p (.int .i64 (k:Int)))]) (fun k=>[(3,.vec 111 (cells ((o.Ae.take k).map fun d=>(⟨d.lo,d.hi⟩:sU))) ((o.Ae.take k).map fun d=>(⟨d.lo,d.hi⟩:sU)).length true),(2,.map (OB ((o.Ae.take k).map tV.name))),(0,.box 40 ((Enc.enc o).map .p))]) 4 (fun k=>k≤o.Ae.length∧GK o.ranks o.Ae k=GK o.ranks o.Ae 0) (fun k=>o.Ae.length-k) 0 (by omega) ⟨by omega,rfl⟩ ⟨by omega,?_,?_⟩ ?_
 ·exact Dh
 ·exact DT
 rintro k ⟨I,j⟩;have C:((o.Ae.take k).map fun d=>(⟨d.lo,d.hi⟩:sU)).length=k:=by rw[aL,av];omega
 by_cases c:k<o.Ae.length
 ·have u:=n.dv k c
  have f:=Je (gi o.Ae k).name (by have:=u.name;omega);have r:=jY o (gi o.Ae k) n u;by_cases g:Dx (gi o.Ae k).name
  case neg =>
   have s:GK o.ranks o.Ae 0=8:=by rw[← j,GK,if_pos c,if_pos g]
   rw[s,if_pos (by decide)];rw[decide_eq_false g] at f
   repeat' (first|refine a6 f ?_|refine b9 ?_|refine Fh ?_|refine a7 ?_|(apply ei;rfl)|(apply a8;rfl)|(intro _;try omega))
   all_goals first|omega|contradiction|(refine aa ?_;try rfl)
  rw[decide_eq_true g] at f;by_cases m:(gi o.Ae k).name∈(o.Ae.take k).map tV.name
  ·have s:GK o.ranks o.Ae 0=9:=by rw[← j,GK,if_pos c,if_neg (fun h=>h g),if_pos m]
   rw[s,if_pos (by decide)]
   repeat' (first|refine a6 f ?_|(apply Vd;rfl;rfl;rfl;exact le_dec rfl)|refine b9 ?_|refine Fh ?_|(apply AP.ret;rfl)|(apply lR;rfl;rfl;rfl;rfl;rfl;rfl)|refine a7 ?_|(apply ei;rfl)|(apply cn;rfl)|(apply a8;rfl)|(intro _;try omega))
   all_goals first|omega|contradiction|(refine aa ?_;try rfl)
  by_cases z:DU o.ranks (gi o.Ae k)=0
  case neg =>
   have s:GK o.ranks o.Ae 0=DU o.ranks (gi o.Ae k):=by rw[← j,GK,if_pos c,if_neg (fun h=>h g),if_neg m,if_pos z]
   rw[s,if_pos z]
   repeat' (first|refine a6 f ?_|refine a6 r ?_|(apply Vd;rfl;rfl;rfl;exact le_dec rfl)|(apply nf;rfl;rfl;rfl;rfl;rfl;rfl;exact m)|refine b9 ?_|refine Fh ?_|(apply AP.ret;rfl)|(apply lR;rfl;rfl;rfl;rfl;rfl;rfl)|refine a7 ?_|(apply ei;rfl)|(apply cn;rfl)|(apply a8;rfl)|(intro _;try omega))
   all_goals first|omega|contradiction|(refine aa ?_;try rfl)
  rw[z] at r;have G:((o.Ae.take (k+1)).map fun d=>(⟨d.lo,d.hi⟩:sU))=((o.Ae.take k).map fun d=>(⟨d.lo,d.hi⟩:sU))++[⟨(gi o.Ae k).lo,(gi o.Ae k).hi⟩]:=by rw[EH c,bh];rfl
  have F:((o.Ae.take (k+1)).map fun d=>(⟨d.lo,d.hi⟩:sU)).length=((o.Ae.take k).map fun d=>(⟨d.lo,d.hi⟩:sU)).length+1:=by rw[G,ar];rfl
  repeat' (first|refine a6 f ?_|refine a6 r ?_|refine d7 (a:=(⟨(gi o.Ae k).lo,(gi o.Ae k).hi⟩:sU)) ?_|(apply Vd;rfl;rfl;rfl;exact le_dec rfl)|(apply nf;rfl;rfl;rfl;rfl;rfl;rfl;exact m)|refine b9 ?_|refine Fh ?_|(apply AP.ret;rfl)|(apply lR;rfl;rfl;rfl;rfl;rfl;rfl)|refine a7 ?_|refine bi ?_|(apply ei;rfl)|(apply cn;rfl)|(apply a8;rfl)|(intro _;try omega))
  all_goals try omega
  all_goals try contradiction
  refine Aj.normal ⟨k+1,⟨by omega,?_⟩,by omega,⟨by omega,?_,?_⟩⟩
  ·first|rfl|(refine dm ?_ j;symm;(conv=>lhs;rw[GK]);rw[if_pos c,if_neg (fun h=>h g),if_neg m,if_neg (fun h=>h z)])
  ·rw[F];exact Dh
  ·rw[F,G,Vf tV.name c];exact DT
 obtain rfl:k=o.Ae.length:=by omega
 have s:GK o.ranks o.Ae 0=0:=by rw[← j,GK,if_neg (by omega)]
 rw[if_neg (fun h=>h s)];have J:o.Ae.take o.Ae.length=o.Ae:=dz (ab _);have B:=pO (o.Ae.map fun d=>(⟨d.lo,d.hi⟩:sU)) o.IW (by rw[aL];exact b2) n.IW n.cp;rw[J]
 repeat' (first|(refine Ad.at 35 ?_;refine cb (b6 8 rfl rfl) ?_;first|apply ce|apply da)|apply ce|refine a6 B ?_|refine go2 ?_|refine a7 ?_|(apply a8;rfl)|(intro _;try omega))
 all_goals first|omega|(refine aa ?_;try rfl)
end Go.Proofs.YthlffjlbidibdaaGreatDoor
namespace Go.Vm
section
open Go.Am
variable {E:Env}{bn:Nat}{L:Frame}{H:Heap}{nx:Nat}{Q:BP→Frame→Heap→Nat→Prop}{b:Code}
theorem Ad.EY(n:Nat)(L0:Frame)(H0:Heap)(c:Nat→Frame→Frame)(d:Nat→Heap→Heap)(C9:Nat)(m:bn≤C9)(j:C9≤nx)(p:GZ C9 (c 0 L0) L)(o:BN C9 (d 0 H0) H)
 (g:∀k,k<n→Ad E bn b (c k L0) (d k H0) C9 (Aj (fun f H' a=>C9≤a∧GZ C9 (c (k+1) L0) f∧BN C9 (d (k+1) H0) H') Q))
 (s:Ad E bn b (c n L0) (d n H0) C9 (Aj (fun _ _ _=>False) Q)):Ad E bn (.loop b) L H nx Q :=
 eD (fun k=>c k L0) (fun k=>d k H0) C9 (fun k=>k≤n) (fun k=>n-k) 0 m (ao _) ⟨j,p,o⟩ fun k r=>by
  rcases aq k n with h|h
  ·refine(g k h).mono fun e f H' a q=>?_
   cases e with
   |normal=>exact⟨k+1,h,by omega,⟨q.1,q.2.1,q.2.2⟩⟩
   |ret=>exact q
   |exit i=>exact q
  grind
theorem Ad.Jy(n:Nat)(a:Nat→Prop)(L0:Frame)(H0:Heap)(d:Nat→Frame→Frame)(f:Nat→Heap→Heap)(C9:Nat)(r:bn≤C9)(o:C9≤nx)(u:GZ C9 (d 0 L0) L)(s:BN C9 (f 0 H0) H)(x:a 0)
 (m:∀k,k<n→a k→Ad E bn b (d k L0) (f k H0) C9 (Aj (fun j H' c=>a (k+1)∧C9≤c∧GZ C9 (d (k+1) L0) j∧BN C9 (f (k+1) H0) H') Q))
 (y:a n→Ad E bn b (d n L0) (f n H0) C9 (Aj (fun _ _ _=>False) Q)):Ad E bn (.loop b) L H nx Q :=
 eD (fun k=>d k L0) (fun k=>f k H0) C9 (fun k=>k≤n∧a k) (fun k=>n-k) 0 r ⟨ao _,x⟩ ⟨o,u,s⟩ fun k g=>by
  obtain⟨g,p⟩:=g;rcases aq k n with h|h
  ·refine(m k h p).mono fun e j H' c q=>?_
   cases e with
   |normal=>exact⟨k+1,⟨h,q.1⟩,by omega,⟨q.2.1,q.2.2.1,q.2.2.2⟩⟩
   |ret=>exact q
   |exit i=>exact q
  grind
section
variable {Q:PV→Heap→Nat→Prop}{w:Bool}{dst:Option Tmp}{ty:TypeId}{pos:String}{af:Array Edge}{gd:Option (Nat×Bool)}
theorem c1b(c:Ctx Γ m F σ H nx)(f:RL m F (htag H) σ nx L t)(h:AY Γ L x=some (.p (.lst e cs n))) :
 ∃a k g,ev t x=.slice a k g∧(0<n→a.isNone=false):=by
 have:=Bz c f h;generalize ev t x=v at this;cases this with
 |p d =>
  cases d with
  |nil=>simp
  |room=>simp
  |lst=>simp
theorem aJ(a:Ctx Γ m F σ H nx)(d:RL m F (htag H) σ nx L t)(h:AY Γ L y=some (.p (.val v))):ev t y=v:=by
 have:=Bz a d h;cases this with|p c=>cases c;rfl
theorem b7m(e:P.underlying t=some (.slice e')):QT P .eql t d c (.slice a k g) (.slice none 0 0)=some (.bool a.isNone)∧QT P .neq t d c (.slice a k g) (.slice none 0 0)=some (.bool !a.isNone):=by
 simp[QT,e,J9]
theorem lL(j:AY E.Γ L x=some (.p (.lst e cs n)))(h:AY E.Γ L y=some (.p (.val (.slice none 0 0))))(o:E.P.underlying t=some (.slice e'))(q:∀b,(0<n→b=false)→Q (.p (.bool b)) H nx) :
 Aa E w ⟨dst,.binOp .eql t x y f,ty,pos,af,gd⟩ L H nx Q:=fun m F σ A c d=>by
 obtain⟨a,k,g,z,u⟩:=c1b c d j;have s:=aJ c d h;exact GX.op (v:=.bool a.isNone) (m':=m) (fun _=>by simp only[BX,F5,z,s];rw[(b7m o).1];rfl) ⟨_,H,nx,F,σ,q a.isNone u,c,.p (.bool _),Step.refl _ _ _ _ _,fun _ k r _=>r⟩
theorem mN(d:AY E.Γ L x=some (.p (.lst e cs n)))(c:AY E.Γ L y=some (.p (.val (.slice none 0 0))))(f:E.P.underlying t=some (.slice e'))(g:0<n)(q:Q (.p (.bool false)) H nx) :
 Aa E w ⟨dst,.binOp .eql t x y a,ty,pos,af,gd⟩ L H nx Q:=lL d c f fun b h=>by grind
theorem Ht{α:Type}[Inhabited α]{l:List α}{i j:Nat}{a:α}:gi (l.set i a) j=if i=j∧j<l.length then a else gi l j:=by
 unfold gi;grind
theorem o6(e:AY E.Γ L x=some (.p (.int .u64 ((2^n:Nat):Int))))(d:AY E.Γ L y=some (.p (.int .u64 1)))(f:n<64)(q:Q (.p (.int .u64 ((2^n-1:Nat):Int))) H nx) :
 Aa E w ⟨dst,.binOp .sub t x y c,ty,pos,af,gd⟩ L H nx Q :=
 rh (a:=2^n) (b:=1) e d ⟨Nat.one_le_two_pow,cK (aD (by omega) (show n≤63 by omega)) (by decide)⟩ q
end
theorem all_succ{P:Nat→Prop}(h:∀i,i<k→P i)(a:P k):∀i,i<k+1→P i :=by grind
def Bh{α:Type}(f:Nat→α):Nat→List α
 |0=>[]
 |k+1=>Bh f k++[f k]
theorem Cm(f:Nat→α):∀k,(Bh f k).length=k
 |0=>rfl
 |k+1=>by simp[Bh,Cm f k]
theorem xM(f:Nat→α):∀k i,i<k→(Bh f k)[i]?=some (f i)
 |0,i,h=>by omega
 |k+1,i,h=>by
  simp only[Bh];rw[List.getElem?_append];rw[Cm];by_cases a:i<k
  ·rw[if_pos a];exact xM f k i a
  grind
theorem Dz{α:Type}[Inhabited α](f:Nat→α){k i:Nat}(h:i<k):gi (Bh f k) i=f i:=by
 unfold gi;rw[xM f k i h];rfl
theorem Ld{f g:Nat→α}:∀{k:Nat},(∀i,i<k→f i=g i)→Bh f k=Bh g k
 |0,_=>rfl
 |k+1,h=>by rw[Bh,Bh,Ld (fun i a=>h i (by omega)),h k (by omega)]
def c7b{α:Type}(f:Nat→α)(l:List α):Nat→List α
 |0=>l
 |k+1=>(c7b f l k).set k (f k)
theorem LV{α:Type}[Inhabited α]{l r:List α}(h:l.length=r.length)(a:∀i,i<l.length→gi l i=gi r i):l=r:=by
 refine fI h fun i c d=>?_
 have:=a i c;unfold gi at this;grind
theorem WC{α:Type}[Inhabited α]{a:α}{n i:Nat}(h:i<n):gi (List.replicate n a) i=a:=by
 unfold gi;grind
def c7s(k:Nat):Heap→Bool
 |[]=>true
 |(i,x)::H=>and (and (Nat.blt i k) (HB.ub k x)) (c7s k H)
theorem Dp:∀{H:Heap},c7s k H=true→Nk k H
 |[],_=>trivial
 |(_,_)::_,h=>by
  simp only[c7s,Bool.and_eq_true] at h;exact⟨⟨AZ h.1.1,hQ h.1.2⟩,Dp h.2⟩
def Ej(E:Env)(g:FuncId)(ac:List PV)(Hc:Heap)(k:Nat)(x:FV):Prop:=AL E g ac Hc k fun r H' nx'=>r=.p x∧H'=Hc∧nx'=k
theorem Ej.enter(g:E.O f=none)(m:E.P.funcs[f]?=some fn)(n:fn.body=some c)(d:IV E.G fn c=true)(j:ac.length≤fn.ntmps)
 (h:Ad E k c (CS 0 ac) Hc k (Done E.P fn.results.toList k fun e H' a=>e=.p x∧H'=Hc∧a=k)):Ej E f ac Hc k x:=AL.enter g m n d j h
theorem eO{Q:PV→Heap→Nat→Prop}(ns:List Nat)(o:Ej E g ac Hc ns.length x)
 (n:AY E.Γ L j=some (.clo g f cs)) (s:evs E.Γ L args.toList=some Bo) (d:OE (f++Bo++cs) (CZ.rn (rho ns nx) ac)) (k:CZ.under ns.length ac) (e:Nk ns.length Hc) (hin:HIn (rho ns nx) H Hc) (a:ns.Nodup) (c:∀b∈ns,b<nx)
 (m:news ns.length (rho ns nx) Hc (merge ns (rho ns nx) Hc H)=H) (q:Q (.p x) H nx) :
 Aa E true ⟨dst,.call { callee:=.value j,args:=args,argTypes:=u },ty,pos,af,gd⟩ L H nx Q :=
 nj n s d k e hin a c (fun h=>by cases h) o fun r H' nx' ⟨h1,h2,h3⟩=>by
  subst h1;subst h2;subst h3;rw[m,cW];exact q
theorem uP(g:Ci P t=some z)(h:P.underlying t=some (.array n e))(j:P.info? e=some a)
 (k:Instr.fill (fun i=>some (i*a.size,a.size)) z.toArray ps.toList=some c):DL P (Instr.build t ps)=some (.agg c):=by
 obtain⟨i,f,p,o,m,q⟩:=BM g;unfold Instr.build;simp only[Aw];have d:DL P (zeroValue t)=some f:=by
  simp only[zeroValue,Aw,LY,p,Option.bind_some,o];rfl
 rw[d];simp only[Option.bind_some,Bd,h];simp only[Aw,Gy,j,Option.map_some,Option.bind_some];have e:f.cells=z.toArray:=by rw[m]
 rw[e,k];rfl
theorem rp{Q:PV→Heap→Nat→Prop}{ps:Array (Nat×Operand)}(h:Ci E.P t=some z)(k:E.P.underlying t=some (.array n e))
 (r:E.P.info? e=some c) (o:evp E.Γ L ps.toList=some a) (s:UR (fun i=>some (i*c.size,c.size)) (z.map fun v=>.p (Iw v)) a=some f) (q:Q (yQ f) H nx) :
 Aa E w ⟨dst,.build t ps,ty,pos,af,gd⟩ L H nx Q :=
 Aa.quiet q fun m F σ j y u=>by
  obtain⟨_,_,_,_,_,g⟩:=BM h;obtain⟨d,G,C,B⟩:=Td (fun i=>some (i*c.size,c.size)) (ay y u o) (cs':=z.toArray) (Dw.zero g) (Dq g) s;have A:=uP (ps:=ps.map fun(i,x)=>(i,ev j x)) h k r (by rw[bL];omega);refine⟨.agg d,fun _=>?_,XZ C B⟩;simp only[BX,F5,h,A,Option.map_some]
end
section
open Go.Am
variable {E:Env}{L:Frame}{H:Heap}{nx:Nat}{Q:PV→Heap→Nat→Prop}
variable {dst:Option Tmp}{ty:TypeId}{pos:String}{af:Array Edge}{gd:Option (Nat×Bool)}
end
end Go.Vm
namespace Go.Proofs.YthlffjlbidibdaaGreatDoor
open Go Go.Am Go.Vm
attribute [local irreducible] Aa Ah Ai Ad AL Ak Bf BK Bj Aj Vm.Done Bv AP
structure Rgs where
 stops:List Nat
 cp:Nat
 off:Nat
instance:Enc Rgs:={ default:=⟨[],0,0⟩,enc:=fun x=>[.lst 104 (cells x.stops) x.stops.length,.int .u64 (x.cp:Int),.int .u64 (x.off:Int)],size:=3,len:=fun _=>rfl }
structure Rgs.Ok(r:Rgs):Prop where
 stops:∀i,i<r.stops.length→gi r.stops i<18446744073709551616
 cp:r.cp<18446744073709551616
 off:r.off<18446744073709551616
 len:r.stops.length<9223372036854775808
def b4u(b:Nat→Nat):List FV:=[.int .u8 (b 0:Int),.int .u8 (b 1:Int),.int .u8 (b 2:Int),.int .u8 (b 3:Int),.int .u8 (b 4:Int)]
def Ir(o:FZ)(b:Nat→Nat)(k:Nat):Nat:=b (k%3) &&& (2^(gi o.Ae k).stops.length-1)
def SG(o:FZ)(b:Nat→Nat):Rgs:=⟨Bh (Ir o b) o.Ae.length,b 3 &&& (2^o.IW.length-1),b 4 &&& (2^o.Ae.length-1)⟩
theorem c8i(h:n≤3):2^n≤8:=aD (by omega) h
theorem b2n(b:Nat→Nat)(k:Nat):((b4u b).map PV.p)[0+((k:Int)%3).toNat*1]?=some (.p (.int .u8 ((b (k%3):Nat):Int))):=by
 have a:((k:Int)%3).toNat=k%3:=by omega
 rw[a];have:k%3<3:=be _ (by decide);generalize k%3=n at this
 match n,this with
 |0,_=>rfl
 |1,_=>rfl
 |2,_=>rfl
theorem a3c(o:FZ)(c:a1r o)(b:Nat→Nat)(d:∀i,b i<256):Ak env 53 [.agg (Enc.enc o),.agg (b4u b)] (.p (.agg (Enc.enc (SG o b)))):=by
 have j:=c.Ae;have g:=c.IW;have b3:=d 3;have z:=d 4;have x:=c8i g;have u:=c8i j.2;refine Ak.enter (Af (by decide)) Tryz.func53 rfl (by kernel_rfl) (by simp[Tryz.ntmps53]) ?_
 repeat' (first|(apply mz;rfl;rfl;rfl;rfl;rfl;decide)|refine KP ?_|(apply o6;rfl;rfl;omega)|refine b7 ?_|(apply mf;rfl;rfl;rfl;rfl;omega)|(apply oE;rfl;rfl;omega))
 refine cb (jw 3 0 104 rfl rfl) ?_;apply Ad.EY (o.Ae.length) [(2,_),(3,_),(4,_),(5,_)] [(0,_),(1,_),(2,_)] (fun k r=>(6,.p (.int .i64 (k:Int)))::r) (fun k r=>(4,.vec 104 (cells (Bh (Ir o b) k)) (Bh (Ir o b) k).length true)::(3,.box 145 [.vec 4 (Bh (Ir o b) k).length 0 (Bh (Ir o b) k).length,.p (.int .u64 ((b 3 &&& (2^o.IW.length-1):Nat):Int)),.p (.int .u64 ((b 4 &&& (2^o.Ae.length-1):Nat):Int))])::r) 5
 ·first|omega|decide
 ·first|omega|decide
 ·exact Ns
 ·exact O9
 ·intro k q
  have n:=Cm (Ir o b) k;have e:Bh (Ir o b) (k+1)=Bh (Ir o b) k++[Ir o b k]:=rfl;have f:(Bh (Ir o b) (k+1)).length=(Bh (Ir o b) k).length+1:=by rw[e];simp
  have s3:=c.stops k q;have y:=c8i s3;have s:=d (k%3);have m:=b2n b k
  repeat' (first|(apply pj;rfl;rfl;rfl;exact m)|(apply mz;rfl;rfl;rfl;rfl;rfl;omega)|refine d7 (a:=Ir o b k) ?_|refine b9 ?_|refine KP ?_|(apply o6;rfl;rfl;omega)|refine a7 ?_|refine bi ?_|(apply mf;rfl;rfl;rfl;rfl;omega)|(apply oE;rfl;rfl;omega)|(apply a8;rfl)|(intro _;try omega))
  all_goals try omega
  refine Aj.normal ⟨by first|omega|decide,?_,?_⟩
  ·try(rw[f,e])
   exact Dh
  ·rw[f,e]
   exact DT
 ·have n:=Cm (Ir o b) o.Ae.length
  repeat' (first|(refine Ad.at 6 ?_;refine cb (e9 3 0 rfl rfl rfl) ?_;first|apply ce|apply da)|refine go0 ?_|apply ce|(apply a8;rfl)|(intro _;try omega))
  all_goals first|omega|(refine aa ?_;try rfl)
noncomputable def Vw(o:FZ)(r:Rgs):Int :=
 open Classical in
 if r.stops.length≠o.Ae.length then 5
 else if ∃i,i<r.stops.length∧gi r.stops i / 2^(gi o.Ae i).stops.length≠0 then 3
 else if r.cp / 2^o.IW.length≠0∨r.off / 2^o.Ae.length≠0 then 3 else 0
theorem x9(h:r.stops.length≠o.Ae.length):Vw o r=5:=by unfold Vw;grind
theorem b9m(h:r.stops.length=o.Ae.length)(a:i<r.stops.length)(c:gi r.stops i / 2^(gi o.Ae i).stops.length≠0):Vw o r=3:=by
 unfold Vw;rw[if_neg (fun d=>d h),if_pos ⟨i,a,c⟩]
theorem nP(h:r.stops.length=o.Ae.length)(a:∀i,i<r.stops.length→gi r.stops i / 2^(gi o.Ae i).stops.length=0):Vw o r=if r.cp / 2^o.IW.length≠0∨r.off / 2^o.Ae.length≠0 then 3 else 0:=by
 unfold Vw;grind
end Go.Proofs.YthlffjlbidibdaaGreatDoor
namespace Go.Proofs.YthlffjlbidibdaaGreatDoor
open Go Go.Am Go.Vm
attribute [local irreducible] Cb Bg
theorem Tm:∀(n k:Nat),l.length-k=n→GK a l k=0→∀i,k≤i→i<l.length→DU a (gi l i)=0
 |0,k,h,_,i,h1,h2=>by omega
 |n+1,k,h,h0,i,h1,h2=>by
  rw[GK,if_pos (by omega)] at h0;split at h0
  ·omega
  split at h0
  ·omega
  split at h0
  ·omega
  rename_i c;rcases aq k i with h4|h4
  ·exact Tm n (k+1) (by omega) h0 i h4 h2
  grind
structure SA(o:FZ):Prop where
 sm:RD o
 err:Ur o=0
 Ae:1≤o.Ae.length∧o.Ae.length≤8
 IW:o.IW.length≤40
 stops:∀i,i<o.Ae.length→(gi o.Ae i).stops.length≤60
theorem c4m(e:RD o)(h:Ur o=0):SA o:=by
 have a:=h;unfold Ur at a;split at a
 ·exact absurd a (by decide)
 split at a
 ·exact absurd a (by decide)
 split at a
 ·rename_i c;exact absurd a c
 split at a
 ·exact absurd a (by decide)
 rename_i k;split at a
 ·exact absurd a (by decide)
 rename_i j;split at a
 ·rename_i c;exact absurd a c
 rename_i d;have d:GK o.ranks o.Ae 0=0:=bx d;unfold EF at a;split at a
 ·exact absurd a (by decide)
 rename_i m;refine⟨e,h,⟨by omega,by omega⟩,by omega,fun i f=>?_⟩;have:=Tm _ 0 rfl d i (ao _) f;unfold DU at this;split at this
 ·rename_i c;exact absurd this c
 split at this
 ·exact absurd this (by decide)
 rename_i g;omega
structure d9o(rk:List GI)(s:Stp):Prop where
 Jp:s.Jp.length≤12
 draws:∀i,i<s.Jp.length→(gi s.Jp i).draws.length≤8∧∀j,j<(gi s.Jp i).draws.length→0≤(gi (gi s.Jp i).draws j).rank∧(gi (gi s.Jp i).draws j).rank<rk.length
def c6e(rk:List GI)(s:Stp)(n:Nat):Nat→List UInt8
 |0=>[]
 |k+1=>if(gi s.Jp (n-(k+1))).draws.length>0 then(gi rk (gi (gi s.Jp (n-(k+1))).draws 0).rank.toNat).JX else c6e rk s n k
def d8r(rk:List GI)(s:Stp):List UInt8:=c6e rk s s.Jp.length s.Jp.length
end Go.Proofs.YthlffjlbidibdaaGreatDoor
namespace Go.Proofs.YthlffjlbidibdaaGreatDoor
open Go Go.Am Go.Vm
structure LM where
 s:Int
 e:Int
 d:Int
 k:Int
deriving DecidableEq
instance:Enc LM:={ default:=⟨0,0,0,0⟩,enc:=fun x=>[.int .i64 x.s,.int .i64 x.e,.int .i64 x.d,.int .i64 x.k],size:=4,len:=fun _=>rfl }
structure iU where
 bar:Int
 reg:Rgs
instance:Enc iU:={ default:=⟨0,default⟩,enc:=fun x=>[.int .i64 x.bar,.lst 104 (cells x.reg.stops) x.reg.stops.length,.int .u64 (x.reg.cp:Int),.int .u64 (x.reg.off:Int)],size:=4,len:=fun _=>rfl }
structure Ez where
 bars:List Int
 notes:List LM
 sets:List iU
instance:Enc Ez:={ default:=⟨[],[],[]⟩,enc:=fun x=>[.lst 3 (cells x.bars) x.bars.length,.lst 64 (cells x.notes) x.notes.length,.lst 148 (cells x.sets) x.sets.length],size:=3,len:=fun _=>rfl }
def jX(a b:LM):Bool:=decide (a.d=b.d)&&(decide (a.k=b.k)&&(decide (a.s<b.e)&&decide (b.s<a.e)))
def ZO(l:List Int)(k:Nat):Int :=
 if k<l.length then if gi l k<0∨gi l k>100000 then 3 else if 0<k∧gi l k≤gi l (k-1) then 6 else ZO l (k+1) else 0
termination_by l.length-k
def QE(l:List Int):Int:=if l.length<2 then 5 else if l.length>201 then 4 else ZO l 0
def Xc(o:FZ)(a z:Int)(pre:List LM)(n:LM):Int :=
 if n.d<0∨n.d≥o.Ae.length then 10
 else if n.k<(gi o.Ae n.d.toNat).lo∨n.k>(gi o.Ae n.d.toNat).hi then 23
 else if n.s<a∨n.e>z then 3
 else if n.s≥n.e then 6
 else if pre.any (fun m=>jX m n) then 14 else 0
def Hr(o:FZ)(a z:Int)(l:List LM)(k:Nat):Int :=
 if k<l.length then if Xc o a z (l.take k) (gi l k)≠0 then Xc o a z (l.take k) (gi l k) else Hr o a z l (k+1) else 0
termination_by l.length-k
noncomputable def OB(o:FZ)(nb:Nat)(l:List iU)(k:Nat):Int :=
 if(gi l k).bar<0∨(gi l k).bar≥(nb:Int)-1 then 3
 else if 0<k∧(gi l k).bar=(gi l (k-1)).bar then 9
 else if 0<k∧(gi l k).bar<(gi l (k-1)).bar then 6
 else Vw o (gi l k).reg
noncomputable def QD(o:FZ)(nb:Nat)(l:List iU)(k:Nat):Int :=
 if k<l.length then if OB o nb l k≠0 then OB o nb l k else QD o nb l (k+1) else 0
termination_by l.length-k
def Ll(p:Ez):Int:=gi p.bars 0
def LW(p:Ez):Int:=gi p.bars (p.bars.length-1)
noncomputable def WL(o:FZ)(p:Ez):Int :=
 if QE p.bars≠0 then QE p.bars else if p.notes.length>1000 then 4 else if Hr o (Ll p) (LW p) p.notes 0≠0 then Hr o (Ll p) (LW p) p.notes 0
 else if p.sets.length>100 then 4 else QD o p.bars.length p.sets 0
noncomputable def OT(o:FZ)(p:Ez):Int:=if Ur o≠0 then Ur o else WL o p
structure UM(p:Ez):Prop where
 bars:p.bars.length<1000000
 notes:p.notes.length<1000000
 sets:p.sets.length<1000000
 reg:∀i,i<p.sets.length→(gi p.sets i).reg.Ok
theorem Xu(h:k<l.length):ZO l k=if gi l k<0∨gi l k>100000 then 3 else if 0<k∧gi l k≤gi l (k-1) then 6 else ZO l (k+1):=by
 rw[ZO,if_pos h]
theorem wY(l:List Int):ZO l l.length=0:=by rw[ZO,if_neg (cH _)]
theorem Yv(h:k<l.length):Hr o a z l k=if Xc o a z (l.take k) (gi l k)≠0 then Xc o a z (l.take k) (gi l k) else Hr o a z l (k+1):=by
 rw[Hr,if_pos h]
theorem a1k(o:FZ)(a z:Int)(l:List LM):Hr o a z l l.length=0:=by rw[Hr,if_neg (cH _)]
theorem gq(h:k<l.length):QD o nb l k=if OB o nb l k≠0 then OB o nb l k else QD o nb l (k+1):=by
 rw[QD,if_pos h]
theorem oP(o:FZ)(nb:Nat)(l:List iU):QD o nb l l.length=0:=by rw[QD,if_neg (cH _)]
theorem zO:∀(n k:Nat),l.length-k=n→ZO l k=0→∀i,k≤i→i<l.length→(0≤gi l i∧gi l i≤100000)∧(0<i→gi l (i-1)<gi l i)
 |0,k,h,_,i,h1,h2=>by omega
 |n+1,k,h,h0,i,h1,h2=>by
  rw[Xu (by omega)] at h0;split at h0
  ·omega
  rename_i c;split at h0
  ·omega
  rename_i a;rcases aq k i with h5|h5
  ·exact zO n (k+1) (by omega) h0 i h5 h2
  grind
theorem mZ(h:∀i,i<l.length→(0≤gi l i∧gi l i≤100000)∧(0<i→gi l (i-1)<gi l i)):∀(n k:Nat),l.length-k=n→ZO l k=0
 |0,k,hk=>by rw[ZO,if_neg (by omega)]
 |n+1,k,hk=>by
  obtain⟨c,a⟩:=h k (by omega);rw[Xu (by omega),if_neg (by omega),if_neg (fun⟨h3,h4⟩=>by omega)];exact mZ h n (k+1) (by omega)
theorem iZ:∀(n k:Nat),l.length-k=n→Hr o a z l k=0→∀i,k≤i→i<l.length→Xc o a z (l.take i) (gi l i)=0
 |0,k,h,_,i,h1,h2=>by omega
 |n+1,k,h,h0,i,h1,h2=>by
  rw[Yv (by omega)] at h0;split at h0
  ·omega
  rename_i c;rcases aq k i with h5|h5
  ·exact iZ n (k+1) (by omega) h0 i h5 h2
  grind
theorem RG(h:∀i,i<l.length→Xc o a z (l.take i) (gi l i)=0):∀(n k:Nat),l.length-k=n→Hr o a z l k=0
 |0,k,hk=>by rw[Hr,if_neg (by omega)]
 |n+1,k,hk=>by
  rw[Yv (by omega),if_neg (fun c=>c (h k (by omega)))];exact RG h n (k+1) (by omega)
theorem oN:∀(n k:Nat),l.length-k=n→QD o nb l k=0→∀i,k≤i→i<l.length→OB o nb l i=0
 |0,k,h,_,i,h1,h2=>by omega
 |n+1,k,h,h0,i,h1,h2=>by
  rw[gq (by omega)] at h0;split at h0
  ·omega
  rename_i a;rcases aq k i with h5|h5
  ·exact oN n (k+1) (by omega) h0 i h5 h2
  grind
theorem iY(h:∀i,i<l.length→OB o nb l i=0):∀(n k:Nat),l.length-k=n→QD o nb l k=0
 |0,k,hk=>by rw[QD,if_neg (by omega)]
 |n+1,k,hk=>by
  rw[gq (by omega),if_neg (fun a=>a (h k (by omega)))];exact iY h n (k+1) (by omega)
structure c2p(o:FZ)(p:Ez)(i:Nat):Prop where
 d:0≤(gi p.notes i).d∧(gi p.notes i).d<o.Ae.length
 k:(gi o.Ae (gi p.notes i).d.toNat).lo≤(gi p.notes i).k∧(gi p.notes i).k≤(gi o.Ae (gi p.notes i).d.toNat).hi
 r:Ll p≤(gi p.notes i).s∧(gi p.notes i).s<(gi p.notes i).e∧(gi p.notes i).e≤LW p
 c:∀j,j<i→jX (gi p.notes j) (gi p.notes i)=false
structure XM(o:FZ)(p:Ez):Prop where
 sm:UM p
 err:WL o p=0
 bars:2≤p.bars.length∧p.bars.length≤201
 bar:∀i,i<p.bars.length→(0≤gi p.bars i∧gi p.bars i≤100000)∧(0<i→gi p.bars (i-1)<gi p.bars i)
 notes:p.notes.length≤1000
 note:∀i,i<p.notes.length→c2p o p i
 sets:p.sets.length≤100
 set:∀i,i<p.sets.length→(0≤(gi p.sets i).bar∧(gi p.sets i).bar<(p.bars.length:Int)-1)∧(0<i→(gi p.sets (i-1)).bar<(gi p.sets i).bar)∧Vw o (gi p.sets i).reg=0
theorem dH{f:LM→Bool}(d:i≤l.length):(l.take i).any f=false↔∀j,j<i→f (gi l j)=false:=by
 rw[List.any_eq_false];constructor
 ·intro h j c
  have:gi l j∈l.take i:=by
   unfold gi;rw[ai (by omega)];exact gO.2 ⟨j,by omega,rfl⟩
  grind
 ·intro h x a
  obtain⟨j,c,rfl⟩:=gO.1 a;have:=h j (by omega);unfold gi at this;grind
theorem Vj(g:i<p.notes.length):Xc o (Ll p) (LW p) (p.notes.take i) (gi p.notes i)=0↔c2p o p i:=by
 unfold Xc;constructor
 ·intro h
  split at h
  ·omega
  split at h
  ·omega
  split at h
  ·omega
  split at h
  ·omega
  split at h
  ·omega
  rename_i e d c a j;exact⟨by omega,by omega,by omega,(dH (f:=fun m=>jX m (gi p.notes i)) (by omega)).1 (by grind)⟩
 ·rintro⟨e,d,c,a⟩
  rw[if_neg (by omega),if_neg (by omega),if_neg (by omega),if_neg (by omega),if_neg];rw[(dH (f:=fun m=>jX m (gi p.notes i)) (by omega)).2 a];decide
theorem mD:OB o nb l i=0↔(0≤(gi l i).bar∧(gi l i).bar<(nb:Int)-1)∧(0<i→(gi l (i-1)).bar<(gi l i).bar)∧Vw o (gi l i).reg=0:=by
 unfold OB;omega
theorem d1f(h:UM p)(f:WL o p=0):XM o p:=by
 have d:=f;unfold WL at d;split at d
 ·omega
 rename_i c;have c:=bx c;split at d
 ·omega
 rename_i j;split at d
 ·omega
 rename_i e;have e:=bx e;split at d
 ·omega
 rename_i g;unfold QE at c;split at c
 ·omega
 split at c
 ·omega
 refine⟨h,f,by omega,fun i a=>zO _ 0 rfl c i (ao _) a,by omega,fun i a=>(Vj a).1 (iZ _ 0 rfl e i (ao _) a),by omega,fun i a=>mD.1 (oN _ 0 rfl d i (ao _) a)⟩
theorem qK(h:UM p)(m:2≤p.bars.length∧p.bars.length≤201)(e:∀i,i<p.bars.length→(0≤gi p.bars i∧gi p.bars i≤100000)∧(0<i→gi p.bars (i-1)<gi p.bars i))(k:p.notes.length≤1000)(d:∀i,i<p.notes.length→c2p o p i)(j:p.sets.length≤100)
 (c:∀i,i<p.sets.length→(0≤(gi p.sets i).bar∧(gi p.sets i).bar<(p.bars.length:Int)-1)∧(0<i→(gi p.sets (i-1)).bar<(gi p.sets i).bar)∧Vw o (gi p.sets i).reg=0):XM o p:=by
 refine d1f h ?_;unfold WL;have g:QE p.bars=0:=by
  unfold QE;rw[if_neg (by omega),if_neg (by omega)];exact mZ e _ 0 rfl
 have f:Hr o (Ll p) (LW p) p.notes 0=0:=RG (fun i a=>(Vj a).2 (d i a)) _ 0 rfl;rw[if_neg (fun h=>h g),if_neg (by omega),if_neg (fun h=>h f),if_neg (by omega)];exact iY (fun i a=>mD.2 (c i a)) _ 0 rfl
end Go.Proofs.YthlffjlbidibdaaGreatDoor
namespace Go.Pie
open Go Go.Vm
def Xy(P:Nat→Bool)(n:Nat):Nat→Int
 |0=>-1
 |r+1=>if P (n-(r+1))=true then((n-(r+1):Nat):Int) else Xy P n r
def Ey(P:Nat→Bool)(n:Nat):Int:=Xy P n n
theorem iF(c:k<n)(h:P k=false):Xy P n (n-k)=Xy P n (n-(k+1)):=by
 obtain⟨j,a⟩:∃j,n-k=j+1:=⟨n-k-1,by omega⟩
 rw[a];show(if P (n-(j+1))=true then _ else Xy P n j)=_;grind
theorem rM(c:k<n)(h:P k=true):Xy P n (n-k)=(k:Int):=by
 obtain⟨j,a⟩:∃j,n-k=j+1:=⟨n-k-1,by omega⟩
 rw[a];show(if P (n-(j+1))=true then _ else Xy P n j)=_;grind
theorem a7f(P:Nat→Bool)(n:Nat):∀r,r≤n→-1≤Xy P n r∧Xy P n r<(n:Int)
 |0,_=>⟨by simp[Xy],by simp only[Xy];omega⟩
 |r+1,hr=>by
  unfold Xy;split
  ·omega
  ·exact a7f P n r (by omega)
theorem xq:∀r,r≤n→0≤Xy P n r→P (Xy P n r).toNat=true
 |0,_,h=>by simp[Xy] at h
 |r+1,hr,h=>by
  unfold Xy at h ⊢;split
  ·grind
  ·rename_i a
   rw[if_neg a] at h;exact xq r (by omega) h
theorem eH(h:∀i,i<n→P i=false):∀r,r≤n→Xy P n r=-1
 |0,_=>rfl
 |r+1,hr=>by
  unfold Xy;rw[if_neg (by grind)];exact eH h r (by omega)
theorem Wy(a:P k=true):∀r,r≤n→n-r≤k→k<n→0≤Xy P n r
 |0,_,h1,h2=>by omega
 |r+1,hr,h1,h2=>by
  unfold Xy;split
  ·omega
  ·rename_i c
   refine Wy a r (by omega) ?_ h2;grind
structure qA where
 s:Int
 e:Int
 notes:List Int
deriving DecidableEq
instance:Inhabited qA:=⟨⟨0,0,[]⟩⟩
def d2p(a:Int)(S:Int→List Int):Nat→List Int
 |0=>[]
 |n+1=>if n=0∨S (a+n)≠S (a+n-1) then d2p a S n++[a+n] else d2p a S n
def b6k(S:Int→List Int)(T:List Int):List qA:=Bh (fun i=>⟨gi T i,gi T (i+1),S (gi T i)⟩) (T.length-1)
def stepW(S:Int→List Int)(w:List qA)(t:Int):List qA :=
 if w.length≠0∧(gi w (w.length-1)).notes=S t then w.set (w.length-1) ⟨(gi w (w.length-1)).s,(gi w (w.length-1)).e+1,(gi w (w.length-1)).notes⟩ else w++[⟨t,t+1,S t⟩]
def d4y(a:Int)(S:Int→List Int):Nat→List qA
 |0=>[]
 |n+1=>stepW S (d4y a S n) (a+n)
theorem NK{α:Type}[Inhabited α]{l r:List α}{i:Nat}(h:i<l.length):gi (l++r) i=gi l i:=by
 unfold gi;grind
theorem Na{α:Type}[Inhabited α]{l:List α}{x:α}:gi (l++[x]) l.length=x:=by
 unfold gi;simp
theorem wG(S:Int→List Int)(T:List Int):(b6k S T).length=T.length-1:=Cm _ _
def Inc(l:List Int):Prop:=l.Pairwise (·<·)
theorem aP:∀{l r:List Int},Inc l→Inc r→(∀x,x∈l↔x∈r)→l=r
 |[],[],_,_,_=>rfl
 |[],y::r,_,_,h=>by have:=(h y).2 (by simp);grind
 |x::l,[],_,_,h=>by have:=(h x).1 (by simp);grind
 |x::l,y::r,h1,h2,h=>by
  have c:=List.pairwise_cons.1 h1;have a:=List.pairwise_cons.1 h2;have e:x=y:=by
   have f:=(h x).1 (by simp);have d:=(h y).2 (by simp);grind
  subst e;rw[aP c.2 a.2 fun z=>?_];grind
theorem NH(zs:List Int)(x:Int):x∈Lib.compact zs↔x∈zs:=by
 unfold Lib.compact Lib.compactUpTo;constructor
 ·grind
 ·intro m
  obtain⟨i,c,e⟩:=cf.1 m;have d:∀n i,i≤n→∀c:i<zs.length,∃j,(j<zs.length∧Lib.keeps zs.toArray j=true)∧zs.toArray[j]! =zs[i]:=by
   intro n
   induction n with
   |zero =>
    intro i f c;obtain rfl:i=0:=by omega
    exact⟨0,⟨c,rfl⟩,by grind⟩
   |succ n k =>
    intro i f c;by_cases a:Lib.keeps zs.toArray i=true
    ·grind
    ·match i,c,f,a with
     |0,_,_,a=>grind
     |i+1,c,f,a =>
      obtain⟨j,h,g⟩:=k i (by omega) (by omega);refine⟨j,h,g.trans ?_⟩;unfold Lib.keeps at a;simp only[Nat.add_sub_cancel] at a;rw[getElem!_pos zs.toArray i (by simpa using(by omega:i<zs.length)),getElem!_pos zs.toArray (i+1) (by simpa using c)] at a;simp at a;exact a.symm
  obtain⟨j,h,g⟩:=d i i (ab _) c;grind
theorem QY(h:zs.Pairwise (·≤·)):Inc (Lib.compact zs):=by
 have e:∀i j,i≤j→j<zs.length→zs.toArray[i]!≤zs.toArray[j]!:=fun i j p o=>by
  rw[getElem!_pos zs.toArray i (by grind),getElem!_pos zs.toArray j (by omega)];rcases aq i j with h'|h'
  ·simpa using eT.1 h i j (by omega) o h'
  grind
 have c:∀m,m≤zs.length→Inc (Lib.compactUpTo zs.toArray m)∧∀x,x∈Lib.compactUpTo zs.toArray m→∃j,j<m∧x=zs.toArray[j]!:=by
  intro m
  induction m with
  |zero=>intro _;exact⟨List.Pairwise.nil,fun x a=>by cases a⟩
  |succ m g =>
   intro q;obtain⟨n,k⟩:=g (by omega);rw[Lib.compactUpTo_succ];by_cases f:Lib.keeps zs.toArray m=true
   ·rw[if_pos f]
    refine⟨iB.2 ⟨n,List.pairwise_singleton _ _,fun x a y d=>?_⟩,fun x a=>?_⟩
    ·obtain⟨j,z,rfl⟩:=k x a
     rw[aM] at d;subst d;have u:=e j (m-1) (by omega) (by omega);have s:=e (m-1) m (by omega) (by omega);have r:zs.toArray[m]!≠zs.toArray[m-1]!:=by
      rcases of_decide_eq_true f with h5|h5
      ·omega
      ·exact h5
     omega
    grind
   grind
 exact(c zs.length (ab _)).1
theorem Yz(zs:List Int):(zs.mergeSort fun x y=>decide (x≤y)).Pairwise (·≤·):=by
 have:=List.pairwise_mergeSort (le:=fun x y:Int=>decide (x≤y)) (fun a b c e d=>by grind) (fun a b=>by grind) zs;grind
end Go.Pie
namespace Go.Vm
open Go.Am
section
variable {E:Env}{L:Vm.Frame}{H:Vm.Heap}{nx:Nat}{Q:PV→Vm.Heap→Nat→Prop}{w:Bool}{dst:Option Tmp}{ty:TypeId}{pos:String}{af:Array Edge}{gd:Option (Nat×Bool)}
theorem a6z:∀{cs:List FV} {vs:List Value} {j:Nat} {c:FV},Du m F cs vs→cs[j]?=some c→∃v,vs[j]?=some v∧RF m F c v
 |_,_,0,c,.cons h t,e=>by grind
 |_,_,j+1,c,.cons h t,e=>by
  obtain⟨v,d,a⟩:=a6z t e;grind
 |_,_,_,_,.nil,e=>by grind
theorem ry(r:AY E.Γ L x=some (.p (.agg cs)))(z:AY E.Γ L f=some (.p (.int k i)))
 (s:E.P.underlying t=some (.array n e)) (G:G9 E.P e=some false) (y:E.P.info? e=some d) (h:0≤i∧i<n) (C:cs[i.toNat*d.size]?=some c) (q:Q (.p c) H nx) :
 Aa E w ⟨dst,.index t x f,ty,pos,af,gd⟩ L H nx Q :=
 Aa.quiet q fun m F σ o j g=>by
  have a:=Bz j g r;generalize hv:ev o x=v at a;cases a with
  |p a =>
   cases a with
   |agg a B =>
    rename_i l;obtain⟨u,J,I⟩:=a6z a C;refine⟨u,fun _=>?_,.p I⟩;have A:DL E.P (Instr.index t (.agg l.toArray) (.int k i))=some u:=by
     unfold Instr.index;simp only[Aw,Bd,s];rw[show DL E.P (asIntOf (.int k i))=some (k,i) from rfl];simp only[Option.bind_some,h,and_self,if_true,Aw,Gy,y,Option.map_some];unfold part;simp only[Aw,TJ,G,Option.bind_some,Bool.false_eq_true,if_false,List.getElem?_toArray,J];rfl
    simp only[BX,F5,hv,CV j g z,A,Option.map_some];rfl
end
theorem qw(h:Ctx Γ m F σ H nx)(r:hget H b=some y) :
 Ctx Γ m (fun c=>F c∨Dv (σ b)=some c) σ (hdel H b) nx∧Step m F σ H nx m (fun c=>F c∨Dv (σ b)=some c) σ (hdel H b) nx:=by
 have f:∀c,Dv (σ b)=some c→own H σ c:=fun c hc=>⟨b,_,r,hc⟩
 have k:∀c,F c→(F c∨Dv (σ b)=some c)∧m.get c=m.get c:=fun c hc=>⟨.inl hc,rfl⟩
 have s:Names nx (htag H) σ (htag (hdel H b)) σ:=fun d _=>by
  rw[YD];split
  ·exact⟨trivial,fun _ _ _=>rfl⟩
  ·exact⟨XW.refl _,fun _ _ _=>rfl⟩
 have a:∀d x,hget (hdel H b) d=some x→d≠b∧hget H d=some x:=fun d x e=>by
  rw[Jg] at e;grind
 refine⟨⟨?_,?_,?_,?_⟩,⟨ab _,fun _ _ _=>rfl,fun _ h=>.inl h,fun c _ hc=>hc.imp id (f c),?_,ab _,s,fun _ h _ _=>h⟩⟩
 ·rintro c (hc|hc)
  ·exact h.fr c hc
  ·exact(h.Nr (f c hc)).2
 ·intro d x e
  obtain⟨j,e⟩:=a d x e;obtain⟨z,u⟩:=h.hp d x e;refine⟨z,u.mono k s (ab _) (ab _) fun c hc=>⟨rfl,?_⟩⟩;rintro(hf|hf)
  ·exact(h.Nr ⟨d,x,e,hc⟩).1 hf
  ·exact j (h.sep d b x _ c e r hc hf)
 ·intro d A x q c e n hc o
  exact h.sep d A x q c (a d x e).2 (a A q n).2 hc o
 ·intro g p C B
  obtain⟨z,u⟩:=h.gl g p C B;grind
 ·rintro c _ ⟨d,x,e,hc⟩
  exact⟨d,x,(a d x e).2,hc⟩
section
variable {E:Env}{bn:Nat}{L:Vm.Frame}{H:Vm.Heap}{nx:Nat}{Q:BP→Vm.Frame→Vm.Heap→Nat→Prop}
def c4y(E:Env)(g:FuncId)(fn:Func)(cs:List FV)(e:TypeId)(rows:List (List Value)):Prop :=
 ∀Fo,E.O g=some Fo→∀m F c vs,m.get c=.cells vs e 0 false→Du m F cs vs→F c→∃key,∀m' F' σ' H' nx',(∀d,F d→m'.get d=m.get d)→Ctx E.Γ m' F' σ' H' nx'→∃m1,Fo (EN fn.ntmps [.pointer (some ⟨c,0,none⟩)]) m'=some (JO key rows,m1)
theorem Ad.a4p{fn:Func}{rows:List (List Value)}(n:Nat)(b6t:Nat→List FV)(Z:Nat→List Value)(L0:Vm.Frame)(s:Nat→Vm.Heap)(C9:Nat)(o:Nat→Prop)
 (hf:AY E.Γ L f=some (.clo g [] [.ref b 0])) (N:hget H b=some (.box ct (cs.map .p))) (hfn:E.P.funcs[g]?=some fn) (hfl:(flat Nq&&flat h)=true) {Fo:List Value→Mem→Option (Value×Mem)} (ho:E.O g=some Fo) (hr:rows=(List.range n).map Z) (hlen:∀k,k<n→(Z k).length=ps.size) (hpl:∀k,k<n→(Z k).all plain=true) (hrel:∀k,k<n→∀m F,Du m F (b6t k) (Z k))
 (hb:bn≤C9) (hc:Xz L (hdel H b) nx L0 (s 0) C9) (T:GZ C9 L0 L0) (hask:c4y E g fn cs ct rows)
 (h0:o 0) (jh:∀k,k<n→o k→Ad E C9 Nq (a4v L0 ps.toList (b6t k)) (s k) C9 fun e L1 H1 X=>e=.normal∧Ad E C9 h L1 H1 X (RQ (o (k+1)) C9 L0 (s (k+1)) Q))
 (K:o n→Q .normal L0 (s n) C9):Ad E bn (.rangeFunc f ps Nq h) L H nx Q:=by
 intro B hB m F σ t h1 h2 h3;have hv:=Bz h1 h2 hf;have hlb:∃c V,ev t f=.func (.func g) #[] #[.pointer (some ⟨c,0,none⟩)]∧m.get c=.cells V ct 0 false∧Du m F cs V∧Dv (σ b)=some c:=by
  obtain⟨_,c,V,r1,r2,r3,r4,r5,r6⟩:=h1.hp b _ N;generalize ev t f=u at hv;cases hv with
  |clo p1 p2 =>
   cases p1;cases p2 with
   |cons p2 p3 =>
    cases p3;cases p2 with
    |ref q1 q2 W =>
     obtain⟨c',s1,s2⟩:=W (by simp[htag,N,HB.tag]);rw[r1] at s1;cases s1;exact⟨c,V,by rw[s2],r4,k7 r5,by rw[r1];rfl⟩
 obtain⟨c,V,hev,hgc,hrc,hblk⟩:=hlb;obtain⟨g1,g2⟩:=qw h1 N;obtain⟨A,U⟩:∃A:Nat→Prop,A=fun d=>F d∨Dv (σ b)=some d:=⟨_,rfl⟩
 rw[← U] at g1 g2;have hcF:A c:=by rw[U];exact .inr hblk
 obtain⟨key,z⟩:=hask Fo ho m A c V hgc (hrc.mono fun d M=>⟨by rw[U];exact .inl M,rfl⟩) hcF;have l1:RL m A (htag (hdel H b)) σ nx L t:=RL.step g2 h1 h2;have y:∀j k,k+j=n→o k→∀m1 x a,Ctx E.Γ m1 x a (s k) C9→RL m1 x (htag (s k)) a C9 L0 t→B.to m1 x a (s k) C9→(∀d,A d→x d∧m1.get d=m.get d) →
  NS E.P E.O E.G Nq h ps.size (fun Y=>∃m1,Fo (EN fn.ntmps [.pointer (some ⟨c,0,none⟩)]) Y=some (JO key rows,m1)) t ps.toList (rows.drop k) m1 fun e Y=>∃L' H' nx' F' σ',Q e L' H' nx'∧Ctx E.Γ Y F' σ' H' nx'∧RL Y F' (htag H') σ' nx' L' t∧B.to Y F' σ' H' nx':=by
  intro j
  induction j with
  |zero =>
   intro k hk J m1 x a c1 l b fz;obtain rfl:k=n:=by omega
   rw[hr,cU (by simp)];exact⟨L0,_,C9,x,a,K J,c1,l,b⟩
  |succ j ih =>
   intro k hk J m1 x a c1 l b fz;have e0:rows.drop k=Z k::rows.drop (k+1):=by
    rw[hr,bO (by simp;omega)];simp
   rw[e0];refine⟨hlen k (by omega),hpl k (by omega),?_⟩;refine(jh k (by omega) J ⟨m1.at m1.size,x,a,s k,C9⟩ rfl _ x a _ (c1.at _) (nE (RL.at (Γ:=E.Γ) _ l) (hrel k (by omega) _ _)) (Step.refl _ _ _ _ _)).mono ?_;rintro e1 s1 ⟨L1,H1,X,F2,σ2,⟨he,S⟩,d1,d2,d3⟩;refine⟨he,(S ⟨m1.at m1.size,x,a,s k,C9⟩ rfl s1.m F2 σ2 s1.t d1 d2 d3).mono ?_⟩;rintro e2 s2 ⟨L2,H2,zh,F3,C,q,k1,k2,k3⟩;have st:Step m1 x a (s k) C9 (s2.m.at (min m1.low s2.m.low)) F3 C H2 zh:=Step.at k3;have I:=k1.at (min m1.low s2.m.low);have l':=RL.step st c1 l;have b':=Step.trans b st;have fz':∀d,A d→F3 d∧(s2.m.at (min m1.low s2.m.low)).get d=m.get d:=fun d M=>by
    obtain⟨x1,x2⟩:=fz d M;obtain⟨y1,y2⟩:=st.frozen c1 d x1;exact⟨y1,y2.trans x2⟩
   cases e2 with
   |normal =>
    have r:Xz L0 H2 zh L0 (s (k+1)) C9:=⟨q.2.1,T,q.2.2⟩
    have c2:=r.ctx I;exact⟨z _ _ _ _ _ (fun d M=>(fz' d M).2) c2,ih (k+1) (by omega) q.1 _ _ _ c2 (r.rl l') (r.step (by omega) b') fz'⟩
   |ret =>
    obtain⟨q1,H3,q2,W⟩:=q;have r:Xz L0 H2 zh L0 H3 C9:=⟨q1,T,q2⟩
    exact⟨L0,H3,C9,F3,C,W,r.ctx I,r.rl l',r.step (by omega) b'⟩
   |exit id =>
    obtain⟨q1,H3,q2,W⟩:=q;have r:Xz L0 H2 zh L0 H3 C9:=⟨q1,T,q2⟩
    exact⟨L0,H3,C9,F3,C,W,r.ctx I,r.rl l',r.step (by omega) b'⟩
 refine Om.rangeFunc (fn:=fn) (Fo:=Fo) (rows:=rows) hev hfn hfl ho (z _ _ _ _ _ (fun _ _=>rfl) g1) ?_;have:=y n 0 (by omega) h0 m A σ (hc.ctx g1) (hc.rl l1) (hc.step (by omega) (h3.trans g2)) fun d M=>⟨M,rfl⟩
 rw[cJ] at this;exact this
end
def e0b(e:TypeId)(ks:List Int)(f:Int→List Int):List (FV×FV):=ks.map fun k=>(.int .i64 k,.lst e (cells (f k)) (f k).length)
section
variable {E:Env}{L:Frame}{H:Heap}{nx:Nat}{Q:PV→Heap→Nat→Prop}{w:Bool}
variable {dst:Option Tmp}{ty:TypeId}{pos:String}{af:Array Edge}{gd:Option (Nat×Bool)}
theorem d0c(a:Ctx Γ m F σ H nx)(c:RL m F (htag H) σ nx L t)(h:AY Γ L o=some (.p (.int k n))):ev t o=.int k n:=by
 have:=Bz a c h;generalize ev t o=v at this;cases this with
 |p h=>cases h;rfl
end
section
variable {E:Env}{bn i:Nat}{ops:Array Oper}{l:List Oper}{L:Frame}{H:Heap}{nx:Nat}{R:Frame→Heap→Nat→Prop}
end
def swp(a b i:Nat):Nat:=if i=a then b else if i=b then a else i
theorem PY(a b i:Nat):swp a b (swp a b i)=i:=by
 unfold swp;grind
theorem a5s(h:swp a b i=swp a b j):i=j:=by rw[← PY a b i,h,PY]
theorem c3f(d:n≤a)(c:n≤b)(h:i<n):swp a b i=i:=by unfold swp;grind
theorem a2v(d:a<n)(c:b<n)(h:i<n):swp a b i<n:=by
 unfold swp;grind
def Hrn(ρ:Nat→Nat):Heap→Heap
 |[]=>[]
 |(i,x)::H=>(ρ i,x.rn ρ)::Hrn ρ H
theorem aW(a b:Nat):∀(H:Heap) (i:Nat),hget (Hrn (swp a b) H) (swp a b i)=(hget H i).map (HB.rn (swp a b))
 |[],_=>rfl
 |(j,x)::H,i=>by
  simp only[Hrn,BA];by_cases h:j=i
  ·grind
  ·rw[if_neg h,if_neg (fun e=>h (a5s e))];exact aW a b H i
theorem qg(a b:Nat)(H:Heap)(i:Nat):htag (Hrn (swp a b) H) (swp a b i)=htag H i:=by
 unfold htag;rw[aW];cases hget H i with
 |none=>rfl
 |some x=>simp[mA]
theorem c1q(o:a<nx)(n:b<nx)(h:Ctx Γ m F σ H nx):Ctx Γ m F (fun i=>σ (swp a b i)) (Hrn (swp a b) H) nx:=by
 have s:∀j,j<nx→swp a b j<nx∧htag (Hrn (swp a b) H) (swp a b j)=htag H j∧(fun i=>σ (swp a b i)) (swp a b j)=σ j:=fun j u=>⟨a2v o n u,qg a b H j,by simp only[PY]⟩
 have e:∀i x,hget (Hrn (swp a b) H) i=some x→∃y,hget H (swp a b i)=some y∧x=y.rn (swp a b):=fun i x d=>by
  rw[← PY a b i,aW,ae] at d;grind
 refine⟨h.fr,fun i x d=>?_,fun i j x y c d r z f=>?_,h.gl⟩
 ·obtain⟨y,k,rfl⟩:=e i x d
  obtain⟨g,A⟩:=h.hp _ y k;refine⟨by have:=a2v o n g;rwa[PY] at this,RB.rn s A⟩
 ·obtain⟨q,k,_⟩:=e i x d
  obtain⟨p,g,_⟩:=e j y r;exact a5s (h.sep _ _ q p c k g z f)
theorem c1m(h:own (Hrn (swp a b) H) (fun i=>σ (swp a b i)) c):own H σ c:=by
 obtain⟨i,x,d,f⟩:=h;rw[← PY a b i,aW,ae] at d;obtain⟨y,e,_⟩:=d;exact⟨_,y,e,f⟩
end Go.Vm
