/-
  Texts of a proof, merged (IntA, IntB, FraA, RkB, RkC, OrA, OrB, RkA, RkD, RkE, RkF, RkG). Conditions: in each statement.
-/
import Derived.Test.YtnjkoebfgcbbdaaGreatDoorKPh
set_option linter.unusedSimpArgs false
set_option linter.unusedVariables false
set_option linter.unusedSectionVars false
set_option maxRecDepth 100000
set_option maxHeartbeats 8000000
abbrev cJ:=@Int.toNat_of_nonneg
abbrev dE:=@Nat.pow_mul
abbrev en:=@Int.natCast_mul
abbrev eK:=@Nat.pow_lt_pow_iff_right
abbrev fb:=@Nat.mul_one
abbrev fy:=@List.mem_of_mem_take
abbrev fS:=@Nat.pow_lt_pow_left
abbrev gc:=@Nat.mul_lt_mul_of_lt_of_le
abbrev gT:=@Nat.eq_of_testBit_eq
abbrev ip:=@Nat.le_of_lt
namespace Go.Proofs.YtnjkoebfgcbbdaaGreatDoor
section
open Go Go.Am Go.Vm
attribute [local irreducible] Aa Aj Ag Ad AL Ak Bd BL Bl Ai Vm.Done BD AO
theorem iM(l:List Nat)(j:l.length<1000000):Ak env 131 [.lst 82 (cells l) l.length] (lst 82 (Num.LC l)):=by
 refine Ak.enter (Af (by decide)) Tryz.func131 rfl (by kernel_rfl) (by simp[Tryz.ntmps131]) ?_
 repeat' (first|refine go2 ?_|fail)
 refine Ad.DR (fun a:List Nat=>[(0,lst 82 a)]) (fun _=>[]) 0 (fun a=>a.length≤l.length∧Num.LC a=Num.LC l) (fun a=>a.length) l (ab _) ⟨by omega,rfl⟩ ⟨ab _,?_,trivial⟩ ?_
 ·exact Du
 rintro a ⟨k,c⟩;have b:0<a.length→a=a.take (a.length-1)++[gi a (a.length-1)]:=fun h=>by
  conv=>lhs;rw[← gR (a.length-1) a]
  congr 1
  rw[bN (by omega),gM (by omega)];simp[gi,List.getElem?_eq_getElem (show a.length-1<a.length by omega)]
 repeat' (first|(apply Aa.b2a;rfl;rfl;rfl;omega;omega;rfl)|refine JD ?_|apply Ad.Jh|(apply Aj.guard;rfl;rfl)|(apply Aa.a9a;rfl;rfl;rfl;rfl;rfl;rfl;omega)|(apply Ad.Ah;rfl)|(apply Ad.Ac;rfl)|(intro _;try(exfalso;omega)))
 ·rename_i d g
  have i:((a.length:Int)-1).toNat=a.length-1:=by omega
  have f:gi a (a.length-1)=0:=by omega
  refine Ai.normal ⟨a.take (a.length-1),⟨by simp;omega,?_⟩,by simp;omega,⟨ab _,?_,trivial⟩⟩
  ·have:=b (by omega)
   rw[f] at this;rw[← c]
   conv=>rhs;rw[this]
   rw[Num.Xv]
  ·rw[i];exact Du
 ·rename_i d g
  refine Done.rt rfl rfl ⟨?_,rfl,rfl⟩;have e:Num.LC a=a:=by
   have:=b (by omega)
   conv=>lhs;rw[this]
   rw[Num.dw _ (by omega),← this]
  rw[← c,e]
 ·rename_i d
  refine Done.rt rfl rfl ⟨?_,rfl,rfl⟩;have:a=[]:=bu (by omega);rw[← c,this];rfl
theorem TU(m n:List Nat)(J:Num.gB m)(G:Num.gB n)(I:m.length<400000)(F:n.length<400000) :
 Ak env 205 [.lst 82 (cells m) m.length,.lst 82 (cells n) n.length] (lst 82 (Num.toL (Num.val m*Num.val n))):=by
 refine Ak.enter (Af (by decide)) Tryz.func205 rfl (by kernel_rfl) (by simp[Tryz.ntmps205]) ?_;obtain⟨T,U⟩:∃T,T=m.length+n.length+1:=⟨_,rfl⟩
 repeat' (first|(apply Aa.JQ T (0:Nat);rfl;rfl;rfl;rfl;rfl;omega;omega;omega;decide;decide;rfl)|refine go2 ?_|fail)
 refine Ad.DR (fun a:Nat×List Nat=>[(0,lst 82 m),(1,lst 82 n),(5,.vec 0 T 0 T),(19,lst 82 m),(20,.p (.int .i64 m.length)),(21,.p (.int .i64 (a.1:Int)))]) (fun a=>[(0,.vec 82 (cells a.2) T false)]) 1
  (fun a=>a.1≤m.length∧a.2.length=T∧Num.gB a.2∧Num.val a.2=Num.val (m.take a.1)*Num.val n∧∀j,a.1+n.length≤j→gi a.2 j=0) (fun a=>m.length-a.1) (0,List.replicate T 0) (by omega)
  ⟨by simp,by simp,Num.gV _,by simp[Num.gK,Num.val],fun j _=>Num.UN _ _⟩ ⟨ab _,?_,?_⟩ ?_
 ·exact Du
 ·exact Ec
 rintro⟨i,q⟩ ⟨M,r,l,g,f⟩;simp only at M r l g f;dsimp only;by_cases u:i<m.length
 ·have S:=Num.a0c J i
  repeat' (first|(apply Aa.Ap;rfl;rfl;rfl;omega;rfl)|refine JD ?_|(apply Ad.Ac;rfl)|(intro _;try(exfalso;omega)))
  refine Ad.DR (fun a:Nat×Nat×List Nat=>[(0,lst 82 m),(1,lst 82 n),(5,.vec 0 T 0 T),(6,.p (.int .i64 (i:Int))),(7,.p (.int .u64 ((gi m i:Nat):Int))),(8,.p (.int .u64 (a.2.1:Int))),(19,lst 82 m),(20,.p (.int .i64 m.length)),(21,.p (.int .i64 (i:Int))),(26,lst 82 n),(27,.p (.int .i64 n.length)),(28,.p (.int .i64 (a.1:Int)))]) (fun a=>[(0,.vec 82 (cells a.2.2) T false)]) 1
   (fun a=>a.1≤n.length∧a.2.1<1000000000∧a.2.2.length=T∧Num.gB a.2.2∧Num.val a.2.2+a.2.1*Num.B9^(i+a.1)=Num.val q+gi m i*Num.B9^i*Num.val (n.take a.1)∧∀j,i+n.length≤j→gi a.2.2 j=0) (fun a=>n.length-a.1) (0,0,q) (by omega)
   ⟨by simp,by simp,r,l,by simp[Num.val],f⟩ ⟨ab _,?_,?_⟩ ?_
  ·exact Du
  ·exact Ec
  rintro⟨k,c,o⟩ ⟨K,N,h,d,e,b⟩;simp only at K N h d e b;dsimp only;by_cases x:k<n.length
  ·have R:=Num.a0c G k
   have P:=Num.a0c d (i+k);have O:gi m i*gi n k≤999999999*999999999:=cT (by omega) (by omega)
   repeat' (first|(apply Aa.J9 (y:=(gi o (i+k)+gi m i*gi n k+c)%1000000000);rfl;rfl;rfl;trivial;(first|rfl|(refine congrArg (fun t=>[PV.p (FV.int _ t)]) ?_;first|omega|(simp only[Int.natCast_add,Int.natCast_mul,Int.natCast_ediv,Int.natCast_emod]<;>omega)));rfl;rfl;decide;(first|omega|(simp only[List.length_set]<;>omega)))|(apply Aa.Ap;rfl;rfl;rfl;omega;rfl)|(apply Aa.DV;rfl;rfl;rfl;rfl;omega)|refine Jq ?_|(apply Aa.int;rfl;rfl;rfl)|(apply Ad.Ac;rfl)|(intro _;try(exfalso;omega)))
   refine Ai.normal ⟨(k+1,(gi o (i+k)+gi m i*gi n k+c) / 1000000000,o.set (i+k) ((gi o (i+k)+gi m i*gi n k+c)%1000000000)),⟨by simp only;omega,?_,by simp[h],?_,?_,?_⟩,by simp only;omega,⟨ab _,?_,?_⟩⟩
   ·simp only
    apply cR;omega
   ·exact Num.a2o d (bc _ (by decide))
   ·simp only
    rw[Num.Tq n k x];exact Num.b0e (by omega) e
   ·intro j A
    simp only;rw[Num.G5 _ _ _ _ (by omega),if_neg (by omega)];exact b j A
   ·exact Du
   ·exact Ec
  ·have z:k=n.length:=by omega
   subst z;have C:=b (i+n.length) (by omega)
   repeat' (first|(apply Aa.J9 (y:=gi o (i+n.length)+c);rfl;rfl;rfl;trivial;(first|rfl|(refine congrArg (fun t=>[PV.p (FV.int _ t)]) ?_;first|omega|(simp only[Int.natCast_add,Int.natCast_mul,Int.natCast_ediv,Int.natCast_emod]<;>omega)));rfl;rfl;decide;(first|omega|(simp only[List.length_set]<;>omega)))|(apply Aa.DV;rfl;rfl;rfl;rfl;omega)|refine Jq ?_|(apply Aa.int;rfl;rfl;rfl)|(apply Ad.Ac;rfl)|(intro _;try(exfalso;omega)))
   refine Ai.normal ⟨(i+1,o.set (i+n.length) (gi o (i+n.length)+c)),⟨by simp only;omega,by simp[h],?_,?_,?_⟩,by simp only;omega,⟨ab _,?_,?_⟩⟩
   ·refine Num.a2o d ?_
    rw[C];simp only[Num.B9];omega
   ·simp only
    rw[Num.b6n (by omega) C e,g,cn,Num.Tq m i u,cS]
   ·intro j A
    simp only at A;simp only;rw[Num.G5 _ _ _ _ (by omega),if_neg (by omega)];exact b j (by omega)
   ·exact Du
   ·exact Ec
 ·have B:i=m.length:=by omega
  subst B;have s:=iM q (by omega);rw[r] at s
  repeat' (first|(refine Ad.at 14 ?_;refine Ad.ghost (Aq.freeze 5 rfl rfl) ?_;first|apply Ad.Bo|apply Ad.Ce)|apply Ad.Bo|(apply Aa.fn;rfl;rfl;exact s;intro _;rfl)|refine VU ?_|(apply Aa.int;rfl;rfl;rfl)|(apply Ad.Ac;rfl)|(intro _;try(exfalso;omega)))
  ·refine Done.rt rfl rfl ⟨?_,rfl,rfl⟩
   rw[Num.qN l,g,cn]
end
section
open Go Go.Am Go.Vm
attribute [local irreducible] Aa Aj Ag Ad AL Ak Bd BL Bl Ai Vm.Done BD AO
theorem rJ{l:List UInt8}{p:UInt8→Prop}(h:∀c∈l,p c)(i:Nat)(a:i<l.length):p (gi l i):=by
 simp only[gi,List.getElem?_eq_getElem a,Option.getD_some];grind
theorem a4x(n:Nat)(V:Lib.nDigits n<900000):Ak env 129 [.str (bs (Lib.decDigits n))] (lst 82 (Num.toL n)):=by
 refine Ak.enter (Af (by decide)) Tryz.func129 rfl (by kernel_rfl) (by simp[Tryz.ntmps129]) ?_;obtain⟨d,y⟩:∃d,d=Lib.decDigits n:=⟨_,rfl⟩
 obtain⟨K,z⟩:∃K,K=Lib.nDigits n:=⟨_,rfl⟩
 have u:d.length=K:=by rw[y,z,Lib.decDigits_length]
 have x:d=Num.D K n:=by rw[y,z,Num.EP]
 rw[← y]
 repeat' (first|(apply Aa.Nc;rfl;rfl)|refine go2 ?_|fail)
 refine Ad.ghost (Aq.adopt 3 82 rfl) ?_;refine Ad.DR (fun k:Nat=>[(0,st d),(3,.vec 0 (Num.limbs n k).length 0 (Num.limbs n k).length),(4,.p (.int .i64 ((K:Int)-9*(k:Int))))]) (fun k=>[(0,.vec 82 (cells (Num.limbs n k)) (Num.limbs n k).length true)]) 1 (fun k=>9*k<K+9) (fun k=>K+9-9*k) 0 (by omega) (by omega) ⟨ab _,?_,?_⟩ ?_
 ·rw[← u];refine F5.cons trivial rfl (.refl _) ?_;exact Du
 ·exact BF.cons (by decide) trivial rfl (.refl _) BF.nil
 intro k W;have M:=Num.NJ n k;by_cases J:9*k<K
 ·obtain⟨e,X⟩:∃e,e=K-9*k:=⟨_,rfl⟩
  obtain⟨c,C⟩:∃c,c=min 9 e:=⟨_,rfl⟩
  obtain⟨p,b⟩:∃p,p=Num.D c (n / 10^(9*k)):=⟨_,rfl⟩
  have I:p.length=c:=by rw[b,Num.EW]
  have q:List.drop (max ((K:Int)-9*(k:Int)-9) 0).toNat (List.take ((K:Int)-9*(k:Int)).toNat d)=p:=by
   rw[show((K:Int)-9*(k:Int)).toNat=e by omega,show(max ((K:Int)-9*(k:Int)-9) 0).toNat=e-c by omega,x,Num.qX K n e c (by omega) (by omega),b];rw[show K-e=9*k by omega]
  have A:Num.parse p=Num.lQ n k:=by
   rw[b,Num.VL];unfold Num.lQ;rw[show Num.B9^k=10^(9*k) by rw[dE]];by_cases R:c=9
   ·rw[R]
   ·have f:n / 10^(9*k)<10^c:=by
     apply cR;rw[← cy,show 9*k+c=K by omega,z];exact Lib.lt_pow_nDigits n
    have N:10^c≤Num.B9:=by
     have:10^c≤10^9:=ax (by decide) (by omega);exact this
    rw[br f,br (by omega)]
  have l:∀i,i<p.length→48≤(gi p i).toNat∧(gi p i).toNat≤57:=fun i O=>rJ (p:=fun c=>48≤c.toNat∧c.toNat≤57) (by rw[b];exact Num.pU _ _) i O
  have o:∀j,j≤p.length→Num.parse (p.take j)<1000000000:=fun j s=>by
   have F:=Num.qh (p.take j) (fun c C=>by
    have B:=fy C;rw[b] at B;exact Num.pU _ _ c B)
   rw[ar,cE s] at F;have S:10^j≤10^9:=ax (by decide) (by omega);exact ag F S
  repeat' (first|(apply Aa.lenV;rfl;rfl;rfl)|refine go1 ?_|(rw[q])|(apply Aa.b4e;rfl;rfl;rfl;rfl;omega)|(apply Aa.toBytes;rfl;rfl;rfl;rfl;rfl;rfl;omega)|(apply Aa.b6y;rfl;rfl)|(apply Ad.Ac;rfl)|(intro _;try(exfalso;omega)))
  refine Ad.DR (fun j:Nat=>[(0,st d),(3,.vec 0 (Num.limbs n k).length 0 (Num.limbs n k).length),(4,.p (.int .i64 ((K:Int)-9*(k:Int)))),(5,.p (.int .u64 ((Num.parse (p.take j):Nat):Int))),(20,.vec 1 p.length 0 p.length),(21,.p (.int .i64 p.length)),(22,.p (.int .i64 (j:Int)))])
   (fun _=>[(1,.vec 5 (cells p) p.length false),(0,.vec 82 (cells (Num.limbs n k)) (Num.limbs n k).length true)]) 2 (fun j=>j≤p.length) (fun j=>p.length-j) 0 (by omega) (by omega) ⟨ab _,?_,?_⟩ ?_
  ·exact Du
  ·exact Ec
  intro j s;have U:=o j s;by_cases g:j<p.length
  ·have P:=l j g
   repeat' (first|(apply Aa.DV;rfl;rfl;rfl;rfl;omega)|refine go1 ?_|(apply Aa.uY;rfl;rfl;rfl;rfl;omega)|(apply Ad.Ac;rfl)|(intro _;try(exfalso;omega)))
   refine Ai.normal ⟨j+1,by omega,by omega,⟨by omega,?_,?_⟩⟩
   ·rw[Num.parse_snoc' p j g];exact Du
   ·exact Ec
  ·have r:j=p.length:=by omega
   subst r
   repeat' (first|(apply Aa.Dn (a:=(Num.parse (p.take p.length)));rfl;rfl;rfl;rfl;rfl;rfl;rfl;rfl;(intro _ h;cases h);rfl;rfl;rfl;decide;decide;(first|omega|(simp only[List.length_take,List.length_drop,List.length_append,List.length_singleton,List.length_cons,List.length_nil]<;>omega)))|refine Jq ?_|(apply Aa.int;rfl;rfl;rfl)|(apply Aa.buildSlice;rfl;rfl;rfl;decide;rfl;rfl;rfl)|(apply Ad.Ac;rfl)|(intro _;try(exfalso;omega)))
   have T:Num.limbs n k++[Num.parse (p.take p.length)]=Num.limbs n (k+1):=by rw[cn,A,Num.limbs]
   have G:(Num.limbs n (k+1)).length=(Num.limbs n k).length+1:=by rw[Num.NJ,Num.NJ]
   refine Ai.normal ⟨k+1,by omega,by omega,⟨by omega,?_,?_⟩⟩
   ·rw[G,show(K:Int)-9*((k+1:Nat):Int)=(K:Int)-9*(k:Int)-9 by omega];exact Du
   ·rw[G,← T];exact Ec
 ·have m:=iM (Num.limbs n k) (by omega)
  repeat' (first|(refine Ad.at 12 ?_;refine Ad.ghost (Aq.freeze 3 rfl rfl) ?_;first|apply Ad.Bo|apply Ad.Ce)|(apply Aa.fn;rfl;rfl;exact m;intro _;rfl)|refine VU ?_|apply Ad.Bo|(apply Aa.int;rfl;rfl;rfl)|(apply Ad.Ac;rfl)|(intro _;try(exfalso;omega)))
  ·refine Done.rt rfl rfl ⟨?_,rfl,rfl⟩
   rw[Num.a0l];rw[show Num.B9^k=10^(9*k) by rw[dE]];exact ag (Lib.lt_pow_nDigits n) (ax (by decide) (by omega))
end
section
open Go Go.Am Go.Vm
attribute [local irreducible] Aa Aj Ag Ad AL Ak Bd BL Bl Ai Vm.Done BD AO
theorem b1z{L:Vm.Frame}{H:Vm.Heap}{nx:Nat}{Q:PV→Vm.Heap→Nat→Prop}{dst:Option Tmp}{ty:TypeId}{pos:String}{af:Array Edge}{gd:Option (Nat×Bool)}{e:Operand}{args:Array Operand}{j:Array TypeId}{a cs xs:List PV}{c:Code}
 (g:AU env.Γ L e=some (.clo 104 a cs)) (i:evs env.Γ L args.toList=some xs) (b:Tryz.f104.body=some c) (f:(a++xs++cs).length≤Tryz.f104.ntmps)
 (h:Ad env nx c (CG 0 (a++xs++cs)) H nx (AO env.P Tryz.f104.results.toList Q)):Aa env true ⟨dst,.call { callee:=.value e,args:=args,argTypes:=j },ty,pos,af,gd⟩ L H nx Q:=by
 have d:(match Tryz.f104.body with|some c=>Ir env.G Tryz.f104 c|none=>false)=true:=by kernel_rfl
 rw[b] at d;exact Aa.inline rfl g i (Af (by decide)) Tryz.func104 b d f h
theorem a9p{L:Vm.Frame}{H:Vm.Heap}{nx:Nat}{Q:PV→Vm.Heap→Nat→Prop}{dst:Option Tmp}{ty:TypeId}{pos:String}{af:Array Edge}{gd:Option (Nat×Bool)}{e:Operand}{args:Array Operand}{j:Array TypeId}{a cs xs:List PV}{c:Code}
 (g:AU env.Γ L e=some (.clo 103 a cs)) (i:evs env.Γ L args.toList=some xs) (b:Tryz.f103.body=some c) (f:(a++xs++cs).length≤Tryz.f103.ntmps)
 (h:Ad env nx c (CG 0 (a++xs++cs)) H nx (AO env.P Tryz.f103.results.toList Q)):Aa env true ⟨dst,.call { callee:=.value e,args:=args,argTypes:=j },ty,pos,af,gd⟩ L H nx Q:=by
 have d:(match Tryz.f103.body with|some c=>Ir env.G Tryz.f103 c|none=>false)=true:=by kernel_rfl
 rw[b] at d;exact Aa.inline rfl g i (Af (by decide)) Tryz.func103 b d f h
theorem vg{L:Vm.Frame}{H:Vm.Heap}{nx:Nat}{Q:PV→Vm.Heap→Nat→Prop}{dst:Option Tmp}{ty:TypeId}{pos:String}{af:Array Edge}{gd:Option (Nat×Bool)}{e:Operand}{args:Array Operand}{j:Array TypeId}{a cs xs:List PV}{c:Code}
 (g:AU env.Γ L e=some (.clo 144 a cs)) (i:evs env.Γ L args.toList=some xs) (b:Tryz.f144.body=some c) (f:(a++xs++cs).length≤Tryz.f144.ntmps)
 (h:Ad env nx c (CG 0 (a++xs++cs)) H nx (AO env.P Tryz.f144.results.toList Q)):Aa env true ⟨dst,.call { callee:=.value e,args:=args,argTypes:=j },ty,pos,af,gd⟩ L H nx Q:=by
 have d:(match Tryz.f144.body with|some c=>Ir env.G Tryz.f144 c|none=>false)=true:=by kernel_rfl
 rw[b] at d;exact Aa.inline rfl g i (Af (by decide)) Tryz.func144 b d f h
theorem qm(n:Nat):¬ (List.take 1 (Lib.decDigits n)=[45]):=fun h=>by
 have a:=Num.KG n 45 (fy (by rw[h];simp));grind
theorem b3y(n:Nat):0<(Lib.decDigits n).length:=by rw[Lib.decDigits_length];exact Lib.nDigits_pos n
theorem b6e{a b:Nat}(h:Lib.decDigits a=Lib.decDigits b):a=b:=by
 have c:Lib.nDigits a=Lib.nDigits b:=by rw[← Lib.decDigits_length,← Lib.decDigits_length,h]
 rw[Num.EP,Num.EP,c] at h;have:=congrArg Num.parse h;rw[Num.VL,Num.VL,br (by rw[← c];exact Lib.lt_pow_nDigits a),br (Lib.lt_pow_nDigits b)] at this;omega
theorem a8s(a:Nat):Lib.decDigits a=[48]↔a=0:=by
 have:Lib.decDigits 0=[48]:=by rw[Lib.decDigits_one (by decide)];rfl
 rw[← this];exact⟨b6e,fun h=>by rw[h]⟩
theorem a6f(n:Nat):Num.parse (Lib.decDigits n)=n:=by
 rw[Num.EP,Num.VL,br (Lib.lt_pow_nDigits n)]
theorem b2i(n:Nat):Ak env 54 [.str (bs (Lib.decDigits n)),.str (bs [45])] (.D5 [st (Lib.decDigits n),.p (.bool false)]):=by
 refine Ak.enter (Af (by decide)) Tryz.func54 rfl (by kernel_rfl) (by simp) ?_;have b:=qm n;have a:=b3y n
 repeat' (first|(apply b1z;rfl;rfl;rfl;exact le_dec rfl)|(apply vg;rfl;rfl;rfl;exact le_dec rfl)|(apply Aa.Nc;rfl;rfl)|refine JD ?_|(apply AO.ret;rfl)|(apply Aj.guard;rfl;rfl)|(apply Aa.eqS;rfl;rfl)|(apply Aa.ug;rfl;rfl;rfl;omega)|(apply Aa.a0f;rfl;rfl;rfl;omega)|(apply Ad.AV;rfl)|(apply Ad.Rw;rfl)|(intro _))
 ·refine Done.rt rfl rfl ⟨?_,rfl,rfl⟩
  rfl
 ·grind
 grind
theorem cut_spec'(n:Nat):Ak env 54 [.str (bs (Lib.decDigits n)),.str ⟨#[45]⟩] (.D5 [st (Lib.decDigits n),.p (.bool false)]):=b2i n
theorem UF(n:Nat)(a:Lib.nDigits n<900000):Ak env 92 [.str (bs (Lib.decDigits n))] (.D5 [lst 82 (Num.toL n),.p (.bool false)]):=by
 refine Ak.enter (Af (by decide)) Tryz.func92 rfl (by kernel_rfl) (by simp) ?_
 repeat' (first|(apply Aa.fn;rfl;rfl;exact cut_spec' n;intro _;rfl)|(apply Aa.fn;rfl;rfl;exact a4x n a;intro _;rfl)|refine go2 ?_|fail)
 ·refine Done.rt rfl rfl ⟨?_,rfl,rfl⟩
  rfl
theorem Yg(n:Nat)(b:(Num.toL n).length<1000000):Ak env 93 [.lst 82 (cells (Num.toL n)) (Num.toL n).length,.bool false] (st (Lib.decDigits n)):=by
 refine Ak.enter (Af (by decide)) Tryz.func93 rfl (by kernel_rfl) (by simp) ?_;have a:=sV (Num.toL n) (Num.MQ n) (by omega);rw[Num.kU] at a
 repeat' (first|(apply Aa.fn;rfl;rfl;exact a;intro _;rfl)|refine Jq ?_|(apply Ad.Ah;rfl))
 ·refine Done.rt rfl rfl ⟨?_,rfl,rfl⟩
  rfl
theorem Y4(n:Int)(h:-9223372036854775808≤n∧n≤9223372036854775807):Ak env 18 [.int .i64 n] (st (Lib.itoa n)):=by
 refine Ak.enter (Af (by decide)) Tryz.func18 rfl (by kernel_rfl) (by simp) ?_
 repeat' (first|(apply Aa.fn;rfl;rfl;exact b1k n h;intro _;rfl)|refine go2 ?_|fail)
 ·refine Done.rt rfl rfl ⟨?_,rfl,rfl⟩
  rfl
theorem b0z(n:Nat):Lib.itoa (n:Int)=Lib.decDigits n:=by rfl
theorem O7(n g:Nat)(z:g≤18):Ak env 91 [.str (bs (Lib.decDigits n)),.int .i64 (g:Int)] (.D5 [.p (.int .i64 ((if Lib.nDigits n≤g then n else 0:Nat):Int)),.p (.bool (decide (Lib.nDigits n≤g)))]):=by
 refine Ak.enter (Af (by decide)) Tryz.func91 rfl (by kernel_rfl) (by simp) ?_;have r:=Lib.decDigits_length n;by_cases a:Lib.nDigits n≤g
 ·rw[if_pos a,decide_eq_true a]
  obtain⟨d,h⟩:∃d,d=Lib.decDigits n:=⟨_,rfl⟩
  have k:=cut_spec' n;rw[← h] at r k ⊢;have f:∀i,i<d.length→48≤(gi d i).toNat∧(gi d i).toNat≤57:=fun i s=>rJ (p:=fun c=>48≤c.toNat∧c.toNat≤57) (by rw[h];exact Num.KG n) i s
  have e:∀j,j≤d.length→Num.parse (d.take j)<1000000000000000000:=fun j o=>by
   have x:=Num.qh (d.take j) (fun c k=>by
    have q:=fy k;rw[h] at q;exact Num.KG n c q)
   rw[ar,cE o] at x;have A:10^j≤10^18:=ax (by decide) (by omega);omega
  repeat' (first|(apply Aa.fn;rfl;rfl;exact k;intro _;rfl)|(apply Aa.lenV;rfl;rfl;rfl)|(apply Aa.Nc;rfl;rfl)|refine go2 ?_|(apply Aa.int;rfl;rfl;rfl)|(apply Aa.toBytes;rfl;rfl;rfl;rfl;rfl;rfl;omega)|(apply Ad.Ac;rfl)|(intro _;try(exfalso;omega)))
  refine Ad.DR (fun j:Nat=>[(7,.p (.bool false)),(8,.p (.int .i64 ((Num.parse (d.take j):Nat):Int))),(21,.vec 0 d.length 0 d.length),(22,.p (.int .i64 d.length)),(23,.p (.int .i64 (j:Int)))])
   (fun _=>[(0,.vec 5 (cells d) d.length false)]) 1 (fun j=>j≤d.length) (fun j=>d.length-j) 0 (by omega) (by omega) ⟨ab _,?_,?_⟩ ?_
  ·exact Du
  ·exact Ec
  intro j o;have y:=e j o;by_cases b:j<d.length
  ·have u:=f j b
   have l:=e (j+1) b;rw[Num.parse_snoc' d j b] at l
   repeat' (first|(apply Aa.DV;rfl;rfl;rfl;rfl;omega)|refine go1 ?_|(apply Aa.Io;rfl;rfl;rfl;rfl;omega)|(apply Ad.Ac;rfl)|(intro _;try(exfalso;omega)))
   refine Ai.normal ⟨j+1,by omega,by omega,⟨by omega,?_,?_⟩⟩
   ·rw[Num.parse_snoc' d j b,Int.natCast_add,en];exact Du
   ·exact Ec
  ·have m:j=d.length:=by omega
   subst m
   repeat' (first|refine go1 ?_|(apply Ad.Ah;rfl)|(apply Ad.Ac;rfl)|(intro _;try(exfalso;omega)))
   ·refine Done.rt rfl rfl ⟨?_,rfl,rfl⟩
    rw[cn,h,a6f]
 ·rw[if_neg a,decide_eq_false a]
  repeat' (first|(apply Aa.fn;rfl;rfl;exact cut_spec' n;intro _;rfl)|(apply Aa.Nc;rfl;rfl)|refine go2 ?_|(apply Aa.int;rfl;rfl;rfl)|(apply Ad.Ac;rfl)|(intro _;try(exfalso;omega)))
  ·refine Done.rt rfl rfl ⟨?_,rfl,rfl⟩
   rfl
end
section
open Go Go.Am Go.Vm
attribute [local irreducible] Aa Aj Ag Ad AL Ak Bd BL Bl Ai Vm.Done BD AO
theorem toL_short{x K:Nat}(h:x<10^K)(b:K<900000):(Num.toL x).length<200000:=by
 have a:x<Num.B9^(K / 9+1):=by
  refine ag h ?_;rw[show Num.B9^(K / 9+1)=10^(9*(K / 9+1)) by rw[dE]];exact ax (by decide) (by omega)
 have:=Num.toL_len_le x (K / 9+1) a;omega
theorem b5s(e i:Nat):e &&& 2^i=if e / 2^i%2=1 then 2^i else 0:=by
 apply gT;grind
theorem aK(n e:Nat)(N:e≤6000)(d:e*Lib.nDigits n≤24000)(M:Lib.nDigits n<100000):Ak env 195 [.str (bs (Lib.decDigits n)),.int .i64 (e:Int)] (.D5 [st (Lib.decDigits (n^e)),.p (.int .i64 0)]):=by
 refine Ak.enter (Af (by decide)) Tryz.func195 rfl (by kernel_rfl) (by simp[Tryz.ntmps195]) ?_;have f:=Lib.lt_pow_nDigits n;have F:=toL_short f (by omega);obtain⟨K,A⟩:∃K:Nat,K=24000:=⟨_,rfl⟩
 rw[← A] at d;have r:∀k,k≤e→(Num.toL (n^k)).length<200000:=fun k G=>by
  refine toL_short (K:=K) ?_ (by omega);have q:n^k≤(10^Lib.nDigits n)^k:=Nat.pow_le_pow_left (ip f) k;rw[← dE] at q;rcases bp k with h0|h0
  ·rw[h0,eE];exact Nat.one_lt_pow (by omega) (by decide)
  ·have h:n^k<(10^Lib.nDigits n)^k:=fS f (by omega)
   rw[← dE] at h;refine ag h (ax (by decide) ?_);have:=cb (Lib.nDigits n) G;rw[dr (Lib.nDigits n) e] at this;omega
 have j:=sV (Num.toL n) (Num.MQ n) (by omega);rw[Num.kU] at j;have o:=Lib.decDigits_length n;have y:(e:Int)*((Lib.decDigits n).length:Int)≤24000:=by rw[A] at d;rw[o];exact_mod_cast d
 have J:(0:Int)≤(e:Int)*((Lib.decDigits n).length:Int):=by rw[o,← en];omega
 repeat' (first|(apply Aa.fn;rfl;rfl;exact UF n (by omega);intro _;rfl)|(apply Aa.fn;rfl;rfl;exact j;intro _;rfl)|(apply Aa.Nc;rfl;rfl)|refine Jq ?_|(apply Aa.int;rfl;rfl;rfl)|(apply Aa.buildSlice;rfl;rfl;rfl;decide;rfl;rfl;rfl)|(apply Ad.Ac;rfl)|(intro _;try(exfalso;omega)))
 refine Ad.ghost (Aq.freeze 8 rfl rfl) ?_;have one:Num.toL 1=[1]:=by rw[Num.toL_pos (by decide),show 1 / Num.B9=0 by decide,Num.toL_zero];rfl
 have x:e / 2^14=0:=fh (by omega);refine Ad.DR (fun b:Nat=>[(1,.p (.int .i64 (e:Int))),(6,lst 82 (Num.toL n)),(7,.p (.bool false)),(8,lst 82 (Num.toL (n^(e / 2^b)))),(9,.p (.int .i64 ((2^b / 2:Nat):Int)))]) (fun _=>[]) 1 (fun b=>b≤14) (fun b=>b) 14 (by omega) (by omega) ⟨ab _,?_,?_⟩ ?_
 ·rw[x,eE,one];exact Du
 ·exact BF.nil
 intro b O;rcases bp b with hb0|hb0
 ·subst hb0
  have z:=r e (ab _);have B:=Yg (n^e) (by omega);rw[eE,Nat.div_one]
  repeat' (first|(apply Aa.fn;rfl;rfl;exact B;intro _;rfl)|refine Jq ?_|(apply Aa.int;rfl;rfl;rfl)|(apply Ad.Ah;rfl))
  ·(refine Done.rt rfl rfl ⟨?_,rfl,rfl⟩;try rfl)
 ·obtain⟨i,rfl⟩:∃i,b=i+1:=⟨b-1,by omega⟩
  have u:2^(i+1) / 2=2^i:=by rw[bX,Nat.mul_div_cancel _ (by decide)]
  have C:0<2^i:=dj (by decide);have I:2^i≤2^13:=ax (by decide) (by omega);rw[u];have m:e / 2^(i+1)≤e:=Nat.div_le_self _ _;have q:=TU (Num.toL (n^(e / 2^(i+1)))) (Num.toL (n^(e / 2^(i+1)))) (Num.MQ _) (Num.MQ _) (by have:=r _ m;omega) (by have:=r _ m;omega);rw[Num.V4] at q;have l:e / 2^(i+1)+e / 2^(i+1)≤e:=by
   have h:e / 2^(i+1)*2^(i+1)≤e:=Nat.div_mul_le_self _ _;have P:e / 2^(i+1)*2≤e / 2^(i+1)*2^(i+1):=cb _ (by rw[bX];omega);omega
  have h:=TU (Num.toL (n^(e / 2^(i+1))*n^(e / 2^(i+1)))) (Num.toL n) (Num.MQ _) (Num.MQ _) (by rw[← cy];have:=r _ l;omega) (by omega);rw[Num.V4,Num.V4] at h;have a:=Num.b5a n e i;have c:=b5s e i;by_cases g:e / 2^i%2=1
  ·rw[if_pos g] at a c
   repeat' (first|(apply Aa.fn;rfl;rfl;exact q;intro _;rfl)|(apply Aa.fn;rfl;rfl;exact h;intro _;rfl)|refine go2 ?_|(apply Aa.int;rfl;rfl;rfl)|(apply Aa.oU;rfl;rfl;(simp only[IntKind.bits];omega))|(apply Ad.Ac;rfl)|(apply Ad.Au;rfl)|(intro _;try(exfalso;omega)))
   all_goals try(exfalso;rename_i s;rw[c] at s;omega)
   refine Ai.normal ⟨i,by omega,by omega,⟨by omega,?_,?_⟩⟩
   ·rw[← a];exact Du
   ·exact BF.nil
  ·rw[if_neg g,fb] at a
   rw[if_neg g] at c
   repeat' (first|(apply Aa.fn;rfl;rfl;exact q;intro _;rfl)|refine go2 ?_|(apply Aa.int;rfl;rfl;rfl)|(apply Aa.oU;rfl;rfl;(simp only[IntKind.bits];omega))|(apply Ad.Ac;rfl)|(apply Ad.Au;rfl)|(intro _;try(exfalso;omega)))
   all_goals try(exfalso;rename_i s;rw[c] at s;omega)
   refine Ai.normal ⟨i,by omega,by omega,⟨by omega,?_,?_⟩⟩
   ·rw[← a];exact Du
   ·exact BF.nil
theorem tq(a b:Nat)(u:Lib.nDigits a<400000)(s:Lib.nDigits b<400000):Ak env 196 [.str (bs (Lib.decDigits a)),.str (bs (Lib.decDigits b))] (st (Lib.decDigits (a*b))):=by
 refine Ak.enter (Af (by decide)) Tryz.func196 rfl (by kernel_rfl) (by simp) ?_;have e:=O7 a 9 (by decide);have d:=O7 b 9 (by decide);have g:=Lib.lt_pow_nDigits a;have f:=Lib.lt_pow_nDigits b;have m:=toL_short g (by omega);have l:=toL_short f (by omega);have h:=TU (Num.toL a) (Num.toL b) (Num.MQ _) (Num.MQ _) (by omega) (by omega);rw[Num.V4,Num.V4] at h;have i:(Num.toL (a*b)).length<200000:=toL_short (K:=Lib.nDigits a+Lib.nDigits b) (by
  rw[cy];exact gc g (ip f) (dj (by decide))) (by omega)
 have j:=Yg (a*b) (by omega);by_cases c:Lib.nDigits a≤9∧Lib.nDigits b≤9
 ·rw[if_pos c.1,decide_eq_true c.1] at e
  rw[if_pos c.2,decide_eq_true c.2] at d;have q:a<1000000000:=ag g (ax (n:=10) (by decide) c.1);have o:b<1000000000:=ag f (ax (n:=10) (by decide) c.2);have p:a*b≤999999999*999999999:=cT (by omega) (by omega);have r:(a:Int)*(b:Int)=((a*b:Nat):Int):=(en a b).symm;have k:=Y4 ((a:Int)*(b:Int)) (by omega)
  repeat' (first|(apply Aa.fn;rfl;rfl;exact e;intro _;rfl)|(apply Aa.fn;rfl;rfl;exact d;intro _;rfl)|(apply Aa.fn;rfl;rfl;exact k;intro _;rfl)|refine go2 ?_|(apply Ad.AV;rfl))
  ·refine Done.rt rfl rfl ⟨?_,rfl,rfl⟩
   rfl
 ·repeat' (first|(apply Aa.fn;rfl;rfl;exact e;intro _;rfl)|(apply Aa.fn;rfl;rfl;exact d;intro _;rfl)|(apply Aa.fn;rfl;rfl;exact UF a (by omega);intro _;rfl)|(apply Aa.fn;rfl;rfl;exact UF b (by omega);intro _;rfl)|(apply Aa.fn;rfl;rfl;exact h;intro _;rfl)|(apply Aa.fn;rfl;rfl;exact j;intro _;rfl)|refine go2 ?_|(apply Aa.neB;rfl;rfl;rfl)|(apply Ad.Ac;rfl)|(intro _;try(exfalso;omega)))
  all_goals(refine Done.rt rfl rfl ⟨?_,rfl,rfl⟩;try rfl)
theorem kK(n:Nat):Ak env 53 [.str (bs (Lib.decDigits n))] (.p (.int .i64 (if n=0 then 0 else 1))):=by
 refine Ak.enter (Af (by decide)) Tryz.func53 rfl (by kernel_rfl) (by simp) ?_;have b:=qm n;have a:=a8s n
 repeat' (first|(apply a9p;rfl;rfl;rfl;exact le_dec rfl)|(apply vg;rfl;rfl;rfl;exact le_dec rfl)|(apply Aa.Nc;rfl;rfl)|refine JD ?_|(apply AO.ret;rfl)|(apply Aj.guard;rfl;rfl)|(apply Aa.eqS;rfl;rfl)|(apply Aa.ug;rfl;rfl;rfl;omega)|(apply Ad.cond_false;rfl)|(apply Ad.Au;rfl)|(intro _))
 all_goals first
  |(exfalso;simp_all;done)
  |(exfalso;simp_all;omega)
  |((refine Done.rt rfl rfl ⟨?_,rfl,rfl⟩;try rfl);grind)
theorem eU:∀(a b:List UInt8),-1≤Lib.compareBytes a b∧Lib.compareBytes a b≤1
 |[],[]=>by simp[Lib.compareBytes]
 |[],_::_=>by simp[Lib.compareBytes]
 |_::_,[]=>by simp[Lib.compareBytes]
 |a::as',b::bs'=>by
  simp only[Lib.compareBytes];have:=eU as' bs';omega
def gJ(a b:Nat):Int:=if a<b then -1 else if b<a then 1 else 0
theorem b5v{a b:Nat}(h:Lib.nDigits a=Lib.nDigits b):Lib.compareBytes (Lib.decDigits a) (Lib.decDigits b)=gJ a b:=by
 rw[Num.EP,Num.EP,← h];exact Num.b7r _ _ _ (Lib.lt_pow_nDigits a) (by rw[h];exact Lib.lt_pow_nDigits b)
theorem nC(a b:Nat)(o:Lib.nDigits a<400000)(n:Lib.nDigits b<400000):Ak env 22 [.str (bs (Lib.decDigits a)),.str (bs (Lib.decDigits b))] (.p (.int .i64 (gJ a b))):=by
 refine Ak.enter (Af (by decide)) Tryz.func22 rfl (by kernel_rfl) (by simp) ?_;have f:=kK a;have e:=kK b;have j:=Lib.decDigits_length a;have i:=Lib.decDigits_length b;have l:=eU (Lib.decDigits a) (Lib.decDigits b);have m:Lib.nDigits 0=1:=Lib.nDigits_small (by decide);by_cases d:a=0<;>by_cases c:b=0
 ·rw[if_pos d] at f
  rw[if_pos c] at e;have k:Lib.nDigits a=Lib.nDigits b:=by grind
  repeat' (first|(apply Aa.fn;rfl;rfl;exact f;intro _;rfl)|(apply Aa.fn;rfl;rfl;exact e;intro _;rfl)|(apply Aa.fn;rfl;rfl;exact cut_spec' a;intro _;rfl)|(apply Aa.fn;rfl;rfl;exact cut_spec' b;intro _;rfl)|(apply Aa.fn;rfl;rfl;exact XC _ _;intro _;rfl)|(apply Aa.Nc;rfl;rfl)|refine go2 ?_|(apply Aa.int;rfl;rfl;rfl)|(apply Ad.cond_false;rfl)|(apply Ad.Au;rfl)|(intro _;try(exfalso;omega)))
  all_goals first
   |(exfalso;omega)
   |((refine Done.rt rfl rfl ⟨?_,rfl,rfl⟩;try rfl);refine PV.int_eq ?_;simp[gJ,d,c];done)
 ·rw[if_pos d] at f
  rw[if_neg c] at e
  repeat' (first|(apply Aa.fn;rfl;rfl;exact f;intro _;rfl)|(apply Aa.fn;rfl;rfl;exact e;intro _;rfl)|refine go2 ?_|(apply Aa.int;rfl;rfl;rfl)|(apply Ad.cond_true;rfl))
  all_goals first
   |(exfalso;omega)
   |((refine Done.rt rfl rfl ⟨?_,rfl,rfl⟩;try rfl);refine PV.int_eq ?_;unfold gJ;rw[if_pos (by omega)];done)
 ·rw[if_neg d] at f
  rw[if_pos c] at e
  repeat' (first|(apply Aa.fn;rfl;rfl;exact f;intro _;rfl)|(apply Aa.fn;rfl;rfl;exact e;intro _;rfl)|refine go2 ?_|(apply Aa.int;rfl;rfl;rfl)|(apply Ad.cond_true;rfl)|(apply Ad.cond_false;rfl))
  all_goals first
   |(exfalso;omega)
   |((refine Done.rt rfl rfl ⟨?_,rfl,rfl⟩;try rfl);refine PV.int_eq ?_;unfold gJ;rw[if_neg (by omega),if_pos (by omega)];done)
 ·rw[if_neg d] at f
  rw[if_neg c] at e;have h:Lib.nDigits a<Lib.nDigits b→a<b:=Num.Pg;have g:Lib.nDigits b<Lib.nDigits a→b<a:=Num.Pg
  repeat' (first|(apply Aa.fn;rfl;rfl;exact f;intro _;rfl)|(apply Aa.fn;rfl;rfl;exact e;intro _;rfl)|(apply Aa.fn;rfl;rfl;exact cut_spec' a;intro _;rfl)|(apply Aa.fn;rfl;rfl;exact cut_spec' b;intro _;rfl)|(apply Aa.fn;rfl;rfl;exact XC _ _;intro _;rfl)|(apply Aa.Nc;rfl;rfl)|refine go2 ?_|(apply Aa.int;rfl;rfl;rfl)|(apply Aa.neg;rfl;omega)|(apply Ad.cond_false;rfl)|(apply Ad.Au;rfl)|(intro _;try(exfalso;omega)))
  ·(refine Done.rt rfl rfl ⟨?_,rfl,rfl⟩;try rfl)
   refine PV.int_eq ?_;have:=h (by omega);unfold gJ;rw[if_pos this]
  ·(refine Done.rt rfl rfl ⟨?_,rfl,rfl⟩;try rfl)
   refine PV.int_eq ?_;have:=g (by omega);unfold gJ;rw[if_neg (by omega),if_pos this]
  ·(refine Done.rt rfl rfl ⟨?_,rfl,rfl⟩;try rfl)
   refine PV.int_eq ?_;rw[Int.one_mul,b5v (by omega)]
end
end Go.Proofs.YtnjkoebfgcbbdaaGreatDoor
namespace Go.Vm
open Go.Am
theorem Vz{n:Int}(a:n<0)(h:-18446744073709551616≤n):IntKind.u64.wrap n=n+18446744073709551616:=by
 have e:IntKind.u64.wrap n=n%2^64:=by
  rfl
 omega
section
variable {E:Env}{L:Frame}{H:Heap}{nx:Nat}{Q:PV→Heap→Nat→Prop}{w:Bool}
variable {dst:Option Tmp}{ty:TypeId}{pos:String}{af:Array Edge}{gd:Option (Nat×Bool)}
theorem Aa.c1h{s d:TypeId}{x:Operand}{k':IntKind}{n:Int}{b:TypeDesc}(e:AU E.Γ L x=some (.p (.int k' n)))(f:E.P.underlying s=some b)(a:sF b=true)(g:E.P.underlying d=some (.int .u64))(c:n<0∧-18446744073709551616≤n)(q:Q (.p (.int .u64 (n+18446744073709551616))) H nx) :
 Aa E w ⟨dst,.convert s d x,ty,pos,af,gd⟩ L H nx Q:=Aa.Zv e f a g (by rw[Vz c.1 c.2];exact q)
theorem Aa.c8l{t:TypeId}{x:Operand}{a:Int}(b:AU E.Γ L x=some (.p (.int .u64 a)))(h:0<a∧a<18446744073709551616)(q:Q (.p (.int .u64 (18446744073709551616-a))) H nx):Aa E w ⟨dst,.unOp .neg t x,ty,pos,af,gd⟩ L H nx Q :=
 Aa.quiet q fun m F σ f e d=>by
  refine⟨.int .u64 (18446744073709551616-a),fun _=>?_,.p (.int _ _)⟩;have c:Dz E.P (Op.unary .neg (.int .u64 a))=some (.int .u64 (18446744073709551616-a)):=by
   simp only[Op.unary,Op.intArith,Int.zero_sub,Vz (n:=-a) (by omega) (by omega)];rw[show -a+18446744073709551616=18446744073709551616-a by omega];rfl
  simp only[BO,FI,CQ e d b];rw[show plain (Value.int IntKind.u64 a)=true from rfl];simp only[if_true,KX c rfl,Option.map_some]
theorem Aa.makeFunc{f:FuncId}{a cs:Array Operand}{c d:List PV}(h:evs E.Γ L a.toList=some c)(i:evs E.Γ L cs.toList=some d)(q:Q (.clo f c d) H nx):Aa E w ⟨dst,.makeFunc (.func f) a cs,ty,pos,af,gd⟩ L H nx Q :=
 Aa.quiet q fun m F σ b g e=>by
  refine⟨.func (.func f) (a.toList.map (ev b)).toArray (cs.toList.map (ev b)).toArray,fun _=>?_,.clo (RX g e h) (RX g e i)⟩;simp only[BO,FI,Option.map_some,← Array.toList_map,Array.toArray_toList]
end
end Go.Vm
namespace Go.Proofs.YtnjkoebfgcbbdaaGreatDoor
open Go Go.Am Go.Vm
attribute [local irreducible] Aa Aj Ag Ad AL Ak Bd BL Bl Ai Vm.Done BD AO
structure L8 where
 num:Int
 den:Int
instance:Enc L8:={ default:=⟨0,0⟩,enc:=fun x=>[.int .i64 x.num,.int .i64 x.den],size:=2,len:=fun _=>rfl }
theorem ZC(n:Int)(h:-9223372036854775808≤n∧n<9223372036854775808):Ak env 198 [.int .i64 n] (.p (.int .u64 ((n.natAbs:Nat):Int))):=by
 refine Ak.enter (Af (by decide)) Tryz.func198 rfl (by kernel_rfl) (by simp[Tryz.ntmps198]) ?_
 repeat' (first|refine go2 ?_|(apply Aa.c1h;rfl;rfl;rfl;rfl;omega)|(apply Aa.c8l;rfl;omega)|(apply Aa.int;rfl;rfl;rfl)|(apply Aa.uY;rfl;rfl;rfl;rfl;omega)|(apply Ad.Ac;rfl)|(intro _;try(exfalso;omega)))
 all_goals(refine Done.rt rfl rfl ⟨?_,rfl,rfl⟩;refine PV.int_eq ?_;omega)
theorem a8u(a b:Nat)(i:a<18446744073709551616)(g:b<18446744073709551616):Ak env 197 [.int .u64 (a:Int),.int .u64 (b:Int)] (.p (.int .u64 ((Nat.gcd a b:Nat):Int))):=by
 refine Ak.enter (Af (by decide)) Tryz.func197 rfl (by kernel_rfl) (by simp) ?_
 repeat' (first|refine go2 ?_|fail)
 refine Ad.DR (fun s:Nat×Nat=>[(0,.p (.int .u64 (s.1:Int))),(1,.p (.int .u64 (s.2:Int)))]) (fun _=>[]) 0 (fun s=>s.1<18446744073709551616∧s.2<18446744073709551616∧Nat.gcd s.1 s.2=Nat.gcd a b) (fun s=>s.2) (a,b) (ab _) ⟨i,g,rfl⟩ ⟨ab _,?_,trivial⟩ ?_
 ·exact Du
 rintro⟨x,y⟩ ⟨k,e,f⟩;have c:0<y→x%y<y:=fun h=>bc _ h
 repeat' (first|refine go1 ?_|apply Ad.Jh|(apply Ad.Ac;rfl)|(intro _))
 ·rename_i j
  have d:0<y:=by omega
  refine Ai.normal ⟨(y,x%y),⟨e,by omega,?_⟩,c d,⟨ab _,?_,trivial⟩⟩
  ·rw[← f,Nat.gcd_comm x y,Nat.gcd_rec y x,Nat.gcd_comm]
  ·exact Du
 ·rename_i j
  refine Done.rt rfl rfl ⟨?_,rfl,rfl⟩;simp_all
def fOk(x:L8):Prop:=0<x.den∧x.den≤1000000∧-1000000≤x.num∧x.num≤1000000∧Nat.gcd x.num.natAbs x.den.toNat=1
instance (x:L8):Decidable (fOk x):=by unfold fOk;infer_instance
def b7i(x:L8):Int:=if fOk x then 0 else 2
theorem uI(x:L8):Ak env 178 [.agg (Enc.enc x)] (.p (.int .i64 (b7i x))):=by
 refine Ak.enter (Af (by decide)) Tryz.func178 rfl (by kernel_rfl) (by simp[Tryz.ntmps178]) ?_;have b:0<x.den→((x.den.toNat:Nat):Int)=x.den:=fun h=>cJ (Int.le_of_lt h)
 have a:0<x.den→x.den≤1000000→-1000000≤x.num→x.num≤1000000→Ak env 197 [.int .u64 ((x.num.natAbs:Nat):Int),.int .u64 x.den] (.p (.int .u64 ((Nat.gcd x.num.natAbs x.den.toNat:Nat):Int))):=fun c f e d=>by
  have:=a8u x.num.natAbs x.den.toNat (by omega) (by omega)
  rwa[b c] at this
 repeat' (first|(apply Aa.fn;rfl;rfl;exact ZC _ (by omega);intro _;rfl)|(apply Aa.fn;rfl;rfl;exact a (by omega) (by omega) (by omega) (by omega);intro _;rfl)|refine Jq ?_|(apply Ag.guard;rfl;rfl)|(apply Aa.int;rfl;rfl;rfl)|(apply Aa.uY;rfl;rfl;rfl;rfl;omega)|(apply Ad.AV;rfl)|(apply Ad.Ac;rfl)|(intro _;try(exfalso;omega)))
 all_goals(refine Done.rt rfl rfl ⟨?_,rfl,rfl⟩;refine PV.int_eq ?_;unfold b7i;first|(rw[if_neg (show¬ fOk x from fun h=>by unfold fOk at h;omega)];done)|(rw[if_pos (show fOk x from by unfold fOk;omega)];done))
def pOk(x:L8):Prop:=fOk x∧0<x.num∧x.num≤128*x.den∧x.den≤128
instance (x:L8):Decidable (pOk x):=by unfold pOk;infer_instance
def SG(x:L8):Int:=if¬ fOk x then 2 else if x.num≤0∨x.num>128*x.den then 3 else if x.den>128 then 4 else 0
theorem VH{x:L8}:SG x=0↔pOk x:=by
 unfold SG pOk;grind
theorem ML(x:L8):Ak env 154 [.agg (Enc.enc x)] (.p (.int .i64 (SG x))):=by
 have b:=uI x;refine Ak.enter (Af (by decide)) Tryz.func154 rfl (by kernel_rfl) (by simp[Tryz.ntmps154]) ?_;by_cases a:fOk x
 ·rw[show b7i x=0 from if_pos a] at b
  have c:=a;obtain⟨h,g,f,d,-⟩:=c;have e:SG x=if x.num≤0∨x.num>128*x.den then 3 else if x.den>128 then 4 else 0:=by unfold SG;rw[if_neg (Classical.not_not.2 a)]
  rw[e]
  repeat' (first|(apply Aa.fn;rfl;rfl;exact b;intro _;rfl)|refine Jq ?_|(apply Aj.guard;rfl;rfl)|(apply Aa.int;rfl;rfl;rfl)|(apply Ad.cond_true;rfl)|(apply Ad.cond_false;rfl)|(apply Ad.Au;rfl)|(intro _;try(exfalso;omega)))
  all_goals first|(exfalso;omega)|(rw[if_pos (by omega)];(refine Done.rt rfl rfl ⟨?_,rfl,rfl⟩;try rfl);done)|(rw[if_neg (by omega),if_pos (by omega)];(refine Done.rt rfl rfl ⟨?_,rfl,rfl⟩;try rfl);done)|(rw[if_neg (by omega),if_neg (by omega)];(refine Done.rt rfl rfl ⟨?_,rfl,rfl⟩;try rfl);done)
 ·rw[show b7i x=2 from if_neg a] at b
  rw[show SG x=2 from if_pos a]
  repeat' (first|(apply Aa.fn;rfl;rfl;exact b;intro _;rfl)|refine go2 ?_|(apply Aa.int;rfl;rfl;rfl)|(apply Ad.cond_true;rfl))
  all_goals(refine Done.rt rfl rfl ⟨?_,rfl,rfl⟩;try rfl)
def bothR(x y:L8):Int:=if SG x≠0 then SG x else SG y
theorem x9(x y:L8):Ak env 176 [.agg (Enc.enc x),.agg (Enc.enc y)] (.p (.int .i64 (bothR x y))):=by
 have b:=ML x;have a:=ML y;unfold bothR;refine Ak.enter (Af (by decide)) Tryz.func176 rfl (by kernel_rfl) (by simp) ?_
 repeat' (first|(apply Aa.fn;rfl;rfl;exact b;intro _;rfl)|(apply Aa.fn;rfl;rfl;exact a;intro _;rfl)|refine go2 ?_|(apply Aa.int;rfl;rfl;rfl)|(apply Ad.Ac;rfl)|(intro _))
 all_goals first|(rw[if_pos (by assumption)];(refine Done.rt rfl rfl ⟨?_,rfl,rfl⟩;try rfl);done)|(rw[if_neg (by omega)];(refine Done.rt rfl rfl ⟨?_,rfl,rfl⟩;try rfl);done)
def sh1(den:Nat):Nat→Nat→Int→Nat×Int
 |0,num,n=>(num,n)
 |f+1,num,n=>if num<den then sh1 den f (num*2) (n-12) else(num,n)
def sh2(num:Nat):Nat→Nat→Int→Nat×Int
 |0,den,n=>(den,n)
 |f+1,den,n=>if 2*den≤num then sh2 num f (den*2) (n+12) else(den,n)
def sh3(p:Nat):Nat→Nat→Int→Int
 |0,l,n=>n
 |f+1,l,n=>if l<p then sh3 p f (l*4) (n+1) else n
def shN(num den:Nat):Int :=
 let a:=sh1 den 30 num 0
 let b:=sh2 a.1 30 den a.2
 sh3 (a.1^24) 30 (b.1^24*2) b.2
def shz(x y:L8):Int:=shN (y.num*x.den).toNat (y.den*x.num).toNat
theorem b0m(a b:Nat):gJ a b>0↔b<a:=by
 unfold gJ;omega
theorem a1l{n k:Nat}(d:0<k)(h:n<10^k):Lib.nDigits n≤k:=by
 rcases bp n with h0|h0
 ·subst h0;rw[Lib.nDigits_small (by decide)];omega
 ·have c:=Num.GK n (by omega)
  have b:10^(Lib.nDigits n-1)<10^k:=cx c h;have e:=(eK (a:=10) (by decide)).1 b;omega
theorem xA{n k e:Nat}(c:0<k)(h:n<10^k)(b:e≤100):Lib.nDigits (n^e)≤k*100:=by
 rcases bp e with h0|h0
 ·subst h0;rw[eE,Lib.nDigits_small (by decide)];omega
 ·refine a1l (by omega) ?_
  have a:n^e<(10^k)^e:=fS h (by omega);rw[← dE] at a;exact ag a (ax (by decide) (cb _ b))
theorem a9k{a b j k:Nat}(d:Lib.nDigits a≤j)(c:Lib.nDigits b≤k):Lib.nDigits (a*b)≤j+k:=by
 have h:=Lib.lt_pow_nDigits a;have g:=Lib.lt_pow_nDigits b;have i:=Lib.nDigits_pos a;refine a1l (by omega) ?_;rw[cy];have f:a<10^j:=ag h (ax (by decide) d);have e:b<10^k:=ag g (ax (by decide) c);exact gc f (ip e) (dj (by decide))
theorem zH(x y:L8)(hx:pOk x)(hy:pOk y):Ak env 177 [.agg (Enc.enc x),.agg (Enc.enc y)] (.p (.int .i64 (shz x y))):=by
 obtain⟨⟨f1,-⟩,f2,f3,f4⟩:=hx;obtain⟨⟨g1,-⟩,g2,g3,g4⟩:=hy;obtain⟨B,N⟩:∃k:Nat,x.num=k:=⟨x.num.toNat,by omega⟩
 obtain⟨C,O⟩:∃k:Nat,x.den=k:=⟨x.den.toNat,by omega⟩
 obtain⟨z,K⟩:∃k:Nat,y.num=k:=⟨y.num.toNat,by omega⟩
 obtain⟨A,M⟩:∃k:Nat,y.den=k:=⟨y.den.toNat,by omega⟩
 have b1:z*C≤16384*128:=cT (by omega) (by omega);have b2:A*B≤128*16384:=cT (by omega) (by omega);have p1:0<z*C:=dC (by omega) (by omega);have p2:0<A*B:=dC (by omega) (by omega);have c1:y.num*x.den=((z*C:Nat):Int):=by rw[K,O,en]
 have c2:y.den*x.num=((A*B:Nat):Int):=by rw[M,N,en]
 have e:shz x y=shN (z*C) (A*B):=by unfold shz;rw[c1,c2];rfl
 rw[e];generalize z*C=num at *;generalize A*B=den at *;have z1:-9223372036854775808≤y.num*x.den∧y.num*x.den<9223372036854775808:=by omega
 have z2:-9223372036854775808≤y.den*x.num∧y.den*x.num<9223372036854775808:=by omega
 refine Ak.enter (Af (by decide)) Tryz.func177 rfl (by kernel_rfl) (by simp[Tryz.ntmps177]) ?_
 repeat' (first|refine go2 ?_|fail)
 refine Ad.DR (fun s:Nat×Nat=>[(5,.p (.int .i64 (s.2:Int))),(6,.p (.int .i64 (den:Int))),(7,.p (.int .i64 (-(12*(s.1:Int)))))]) (fun _=>[]) 0 (fun s=>s.1≤22∧s.2=num*2^s.1∧s.2≤4194304∧sh1 den (30-s.1) s.2 (-(12*(s.1:Int)))=sh1 den 30 num 0) (fun s=>30-s.1) (0,num) (by omega) ⟨by omega,by simp,by simp only;omega,by simp⟩ ⟨by omega,?_,?_⟩ ?_
 ·simp only[c1,c2];exact Du
 ·exact BF.nil
 rintro⟨i,m⟩ ⟨hi,I,T,o⟩;simp only at hi I T o;have Z:∀a b c:Nat,0<a→a*2^b≤c→2^b≤c:=fun a b c ha h=>am (Nat.le_mul_of_pos_left _ ha) h
 have W:∀b:Nat,2^b≤2^21→b≤21:=fun b h=>(Nat.pow_le_pow_iff_right (by decide)).1 h
 have d2k:0<m:=by rw[I];exact dC p1 (dj (by decide))
 repeat' (first|refine go1 ?_|(apply Ad.Ac;rfl)|(intro _;try(exfalso;omega)))
 ·rename_i Y
  simp only at Y;have hi2:i≤20:=by
   have u:num*2^i<den:=by rw[← I];omega
   have r:2^i<2^21:=cx (Z _ _ _ p1 (ab _)) (by omega);have:=(eK (a:=2) (by decide)).1 r;omega
  have g:-(12*((i+1:Nat):Int))=-(12*(i:Int))-12:=by omega
  refine Ai.normal ⟨(i+1,m*2),⟨by simp only;omega,by simp only;rw[I,bX,cY],by simp only;omega,?_⟩,by simp only;omega,⟨by omega,?_,?_⟩⟩
  ·simp only
   rw[← o,show 30-i=(30-(i+1))+1 by omega,g]
   conv=>rhs;rw[sh1]
   rw[if_pos (by omega)]
  ·simp only[g];exact Du
  ·exact BF.nil
 ·rename_i Y
  simp only at Y;have S:sh1 den 30 num 0=(m,-(12*(i:Int))):=by
   rw[← o];cases 30-i with
   |zero=>rfl
   |succ f=>rw[sh1,if_neg (by omega)]
  refine Ad.DR (fun s:Nat×Nat=>[(5,.p (.int .i64 (m:Int))),(6,.p (.int .i64 (s.2:Int))),(7,.p (.int .i64 (-(12*(i:Int))+12*(s.1:Int))))]) (fun _=>[]) 0 (fun s=>s.1≤22∧s.2=den*2^s.1∧s.2≤4194304∧sh2 m (30-s.1) s.2 (-(12*(i:Int))+12*(s.1:Int))=sh2 m 30 den (-(12*(i:Int)))) (fun s=>30-s.1) (0,den) (by omega) ⟨by omega,by simp,by simp only;omega,by simp⟩ ⟨by omega,?_,?_⟩ ?_
  ·have g:-(12*(i:Int))+12*((0:Nat):Int)=-(12*(i:Int)):=by omega
   simp only[g];exact Du
  ·exact BF.nil
  rintro⟨j,d⟩ ⟨hj,J,U,P⟩;simp only at hj J U P;have X:0<d:=by rw[J];exact dC p2 (dj (by decide))
  by_cases F:2*d≤m
  ·repeat' (first|refine go1 ?_|(apply Ad.Ac;rfl)|(intro _;try(exfalso;omega)))
   all_goals try(exfalso;omega)
   have hj2:j≤21:=by
    have u:den*2^j≤2^21:=by rw[← J];omega
    exact W _ (Z _ _ _ p2 u)
   have g:-(12*(i:Int))+12*((j+1:Nat):Int)=-(12*(i:Int))+12*(j:Int)+12:=by omega
   refine Ai.normal ⟨(j+1,d*2),⟨by simp only;omega,by simp only;rw[J,bX,cY],by simp only;omega,?_⟩,by simp only;omega,⟨by omega,?_,?_⟩⟩
   ·simp only
    rw[← P,show 30-j=(30-(j+1))+1 by omega,g]
    conv=>rhs;rw[sh2]
    rw[if_pos F]
   ·simp only[g];exact Du
   ·exact BF.nil
  ·have R:sh2 m 30 den (-(12*(i:Int)))=(d,-(12*(i:Int))+12*(j:Int)):=by
    rw[← P];cases 30-j with
    |zero=>rfl
    |succ f=>rw[sh2,if_neg F]
   have hR:shN num den=sh3 (m^24) 30 (d^24*2) (-(12*(i:Int))+12*(j:Int)):=by
    unfold shN;rw[S];simp only;rw[R]
   rw[hR];have om:=Y4 (m:Int) (by omega);have od:=Y4 (d:Int) (by omega);rw[b0z] at om od;have nm:Lib.nDigits m≤7:=a1l (by decide) (by omega);have nd:Lib.nDigits d≤7:=a1l (by decide) (by omega);have pm:=aK m 24 (by decide) (by omega) (by omega);have pd:=aK d 24 (by decide) (by omega) (by omega);have np:Lib.nDigits (m^24)≤700:=xA (k:=7) (by decide) (by omega) (by decide);have nq:Lib.nDigits (d^24)≤700:=xA (k:=7) (by decide) (by omega) (by decide);have n2:Lib.nDigits 2=1:=Lib.nDigits_small (by decide);have n4:Lib.nDigits 4=1:=Lib.nDigits_small (by decide);have q2:=tq (d^24) 2 (by omega) (by omega);rw[show Lib.decDigits 2=[50] by decide +kernel] at q2;have hpq:m^24<2^24*d^24:=by
    rw[← Nat.mul_pow];exact fS (by omega) (by decide)
   have d2l:0<d^24:=dj X;generalize m^24=p at *;generalize d^24=q at *
   repeat' (first|(apply Aa.fn;rfl;rfl;exact om;intro _;rfl)|(apply Aa.fn;rfl;rfl;exact od;intro _;rfl)|(apply Aa.fn;rfl;rfl;exact pm;intro _;rfl)|(apply Aa.fn;rfl;rfl;exact pd;intro _;rfl)|(apply Aa.fn;rfl;rfl;exact q2;intro _;rfl)|refine go2 ?_|(apply Aa.int;rfl;rfl;rfl)|(apply Ad.Ac;rfl)|(intro _;try(exfalso;omega)))
   all_goals try(exfalso;omega)
   generalize hn0:-(12*(i:Int))+12*(j:Int)=n0 at *;have d5d:-1000≤n0∧n0≤1000:=by omega
   refine Ad.DR (fun k:Nat=>[(8,st (Lib.decDigits p)),(12,st (Lib.decDigits (q*2*4^k))),(7,.p (.int .i64 (n0+(k:Int))))]) (fun _=>[]) 0 (fun k=>k≤20∧sh3 p (30-k) (q*2*4^k) (n0+(k:Int))=sh3 p 30 (q*2) n0) (fun k=>30-k) 0 (by omega) ⟨by omega,by simp⟩ ⟨by omega,?_,?_⟩ ?_
   ·have g:n0+((0:Nat):Int)=n0:=by omega
    rw[g,eE,fb];exact Du
   ·exact BF.nil
   rintro k ⟨hk,o⟩;have nl:Lib.nDigits (q*2*4^k)≤1000:=by
    have u:=a9k (a:=q) (b:=2) (j:=700) (k:=1) (by omega) (by omega);have r:Lib.nDigits (4^k)≤100:=xA (n:=4) (k:=1) (by decide) (by decide) (by omega);have h3:=a9k u r;omega
   have cc:=nC p (q*2*4^k) (by omega) (by omega);have q4:=tq (q*2*4^k) 4 (by omega) (by omega);rw[show Lib.decDigits 4=[52] by decide +kernel] at q4;have G:=b0m p (q*2*4^k);by_cases l:q*2*4^k<p
   ·have hc:=G.2 l
    have hk2:k≤12:=by
     have u:q*(2*4^k)<q*2^24:=by rw[← cY,dr q (2^24)];omega
     have r:=Nat.lt_of_mul_lt_mul_left u;have h3:2*4^k=2^(1+2*k):=by rw[cy,dE,Nat.pow_one]
     rw[h3] at r;have:=(eK (a:=2) (by decide)).1 r;omega
    have g:n0+((k+1:Nat):Int)=n0+(k:Int)+1:=by omega
    repeat' (first|(apply Aa.fn;rfl;rfl;exact cc;intro _;rfl)|(apply Aa.fn;rfl;rfl;exact q4;intro _;rfl)|refine go2 ?_|(apply Aa.int;rfl;rfl;rfl)|(apply Ad.Ac;rfl)|(intro _;try(exfalso;omega)))
    all_goals try(exfalso;omega)
    refine Ai.normal ⟨k+1,⟨by omega,?_⟩,by omega,⟨by omega,?_,?_⟩⟩
    ·rw[← o,show 30-k=(30-(k+1))+1 by omega,g]
     conv=>rhs;rw[sh3]
     rw[if_pos l,bX,cY (q*2)]
    ·rw[g,bX,← cY];exact Du
    ·exact BF.nil
   ·have hc:¬ gJ p (q*2*4^k)>0:=fun h=>l (G.1 h)
    have V:sh3 p 30 (q*2) n0=n0+(k:Int):=by
     rw[← o];cases 30-k with
     |zero=>rfl
     |succ f=>rw[sh3,if_neg l]
    rw[V]
    repeat' (first|(apply Aa.fn;rfl;rfl;exact cc;intro _;rfl)|refine go2 ?_|(apply Aa.int;rfl;rfl;rfl)|(apply Ad.Ac;rfl)|(intro _;try(exfalso;omega)))
    all_goals first|(exfalso;omega)|(refine Done.rt rfl rfl ⟨?_,rfl,rfl⟩;try rfl)
def A8(x y:L8):Int×Int:=if bothR x y≠0 then(0,bothR x y) else(shz x y,0)
theorem a8b{x y:L8}:bothR x y=0↔pOk x∧pOk y:=by
 unfold bothR;rw[← VH,← VH];omega
theorem YI(x y:L8):Ak env 152 [.agg (Enc.enc x),.agg (Enc.enc y)] (.D5 [.p (.int .i64 (A8 x y).1),.p (.int .i64 (A8 x y).2)]):=by
 have a:=x9 x y;by_cases h:bothR x y=0
 ·rw[h] at a
  have ok:=a8b.1 h;have b:=zH x y ok.1 ok.2;rw[show A8 x y=(shz x y,0) from if_neg (fun c=>c h)];refine Ak.enter (Af (by decide)) Tryz.func152 rfl (by kernel_rfl) (by simp[Tryz.ntmps152]) ?_
  repeat' (first|(apply Aa.fn;rfl;rfl;exact a;intro _;rfl)|(apply Aa.fn;rfl;rfl;exact b;intro _;rfl)|refine go2 ?_|(apply Aa.int;rfl;rfl;rfl)|(apply Ad.Ah;rfl))
  all_goals first|(exfalso;omega)|(refine Done.rt rfl rfl ⟨?_,rfl,rfl⟩;try rfl)
 ·rw[show A8 x y=(0,bothR x y) from if_pos h]
  refine Ak.enter (Af (by decide)) Tryz.func152 rfl (by kernel_rfl) (by simp[Tryz.ntmps152]) ?_
  repeat' (first|(apply Aa.fn;rfl;rfl;exact a;intro _;rfl)|refine go2 ?_|(apply Aa.int;rfl;rfl;rfl)|(apply Ad.Ac;rfl)|(intro _;try(exfalso;omega)))
  all_goals first|(exfalso;omega)|(refine Done.rt rfl rfl ⟨?_,rfl,rfl⟩;try rfl)
structure H7 where
 name:List UInt8
 Kt:List UInt8
 Eu:L8
 first:Int
 Fz:List Int
instance:Enc H7:={ default:=⟨[],[],⟨0,0⟩,0,[]⟩,enc:=fun r=>[.str (bs r.name),.str (bs r.Kt),.int .i64 r.Eu.num,.int .i64 r.Eu.den,.int .i64 r.first,.lst 3 (cells r.Fz) r.Fz.length],size:=6,len:=fun _=>rfl }
theorem PV.Iy{a b:Bool}(h:a=b):PV.p (.bool a)=PV.p (.bool b) :=by grind
def mG(x:Int):Prop:=x<0∨x>1000000
instance (x:Int):Decidable (mG x):=by unfold mG;infer_instance
theorem b4j(x:Int):Ak env 180 [.int .i64 x] (.p (.bool (decide (mG x)))):=by
 refine Ak.enter (Af (by decide)) Tryz.func180 rfl (by kernel_rfl) (by simp) ?_
 repeat' (first|refine JD ?_|(apply Aj.guard;rfl;rfl)|(intro _))
 all_goals(refine Done.rt rfl rfl ⟨?_,rfl,rfl⟩;refine PV.Iy ?_;first|(refine decide_eq_decide.2 ⟨fun h=>by unfold mG;omega,fun h=>by unfold mG at h;omega⟩)|(symm;apply decide_eq_true;unfold mG;omega))
def okW(l:List Int):Prop:=∀i,i<l.length→¬ mG (gi l i)
noncomputable instance (l:List Int):Decidable (okW l):=Classical.propDecidable _
noncomputable def Bf(l:List Int):Int:=if okW l then 0 else 3
theorem c1n{L:Vm.Frame}{H:Vm.Heap}{nx:Nat}{Q:PV→Vm.Heap→Nat→Prop}{dst:Option Tmp}{ty:TypeId}{pos:String}{af:Array Edge}{gd:Option (Nat×Bool)}{e:Operand}{args:Array Operand}{j:Array TypeId}{a cs xs:List PV}{c:Code}
 (g:AU env.Γ L e=some (.clo 179 a cs)) (i:evs env.Γ L args.toList=some xs) (b:Tryz.f179.body=some c) (f:(a++xs++cs).length≤Tryz.f179.ntmps)
 (h:Ad env nx c (CG 0 (a++xs++cs)) H nx (AO env.P Tryz.f179.results.toList Q)):Aa env true ⟨dst,.call { callee:=.value e,args:=args,argTypes:=j },ty,pos,af,gd⟩ L H nx Q:=by
 have d:(match Tryz.f179.body with|some c=>Ir env.G Tryz.f179 c|none=>false)=true:=by kernel_rfl
 rw[b] at d;exact Aa.inline rfl g i (Af (by decide)) Tryz.func179 b d f h
theorem b9o{L:Vm.Frame}{H:Vm.Heap}{nx:Nat}{Q:PV→Vm.Heap→Nat→Prop}{dst:Option Tmp}{ty:TypeId}{pos:String}{af:Array Edge}{gd:Option (Nat×Bool)}{e:Operand}{args:Array Operand}{j:Array TypeId}{a cs xs:List PV}{c:Code}
 (g:AU env.Γ L e=some (.clo 160 a cs)) (i:evs env.Γ L args.toList=some xs) (b:Tryz.f160.body=some c) (f:(a++xs++cs).length≤Tryz.f160.ntmps)
 (h:Ad env nx c (CG 0 (a++xs++cs)) H nx (AO env.P Tryz.f160.results.toList Q)):Aa env true ⟨dst,.call { callee:=.value e,args:=args,argTypes:=j },ty,pos,af,gd⟩ L H nx Q:=by
 have d:(match Tryz.f160.body with|some c=>Ir env.G Tryz.f160 c|none=>false)=true:=by kernel_rfl
 rw[b] at d;exact Aa.inline rfl g i (Af (by decide)) Tryz.func160 b d f h
theorem xO(l:List Int)(f:l.length<9223372036854775808):Ak env 156 [.lst 3 (cells l) l.length] (.p (.int .i64 (Bf l))):=by
 refine Ak.enter (Af (by decide)) Tryz.func156 rfl (by kernel_rfl) (by simp) ?_
 repeat' (first|(apply c1n;rfl;rfl;rfl;exact le_dec rfl)|(apply b9o;rfl;rfl;rfl;exact le_dec rfl)|refine go2 ?_|fail)
 refine Ad.DR (fun k:Nat=>[(0,lst 3 l),(1,.clo 180 [] []),(7,.p (.int .i64 (l.length:Int))),(8,.p (.int .i64 (k:Int)))]) (fun _=>[]) 0 (fun k=>k≤l.length∧∀i,i<k→¬ mG (gi l i)) (fun k=>l.length-k) 0 (by omega) ⟨by omega,fun i b=>by omega⟩ ⟨by omega,?_,?_⟩ ?_
 ·exact Du
 ·exact BF.nil
 rintro k ⟨g,a⟩;have e:=b4j (gi l k)
 repeat' (first|(apply Aa.fn;rfl;rfl;exact e;intro _;rfl)|(apply Aa.Ap;rfl;rfl;rfl;omega;rfl)|refine go2 ?_|(apply AO.ret;rfl)|(apply Aa.int;rfl;rfl;rfl)|(apply Ad.AV;rfl)|(apply Ad.Ah;rfl)|(apply Ad.Ac;rfl)|(apply Ad.Au;rfl)|(intro _))
 ·rename_i d c
  rw[show Bf l=3 from if_neg (fun h=>h k (by omega) c)]
  (refine Done.rt rfl rfl ⟨?_,rfl,rfl⟩;try rfl)
 ·rename_i d c
  refine Ai.normal ⟨k+1,⟨by omega,fun i b=>?_⟩,by omega,⟨by omega,?_,?_⟩⟩
  ·grind
  ·exact Du
  ·exact BF.nil
 ·rename_i d
  rw[show Bf l=0 from if_pos (fun i b=>a i (by omega))]
  (refine Done.rt rfl rfl ⟨?_,rfl,rfl⟩;try rfl)
def wQ(c:Nat):Prop:=(65≤c∧c≤90)∨(97≤c∧c≤122)
instance (c:Nat):Decidable (wQ c):=by unfold wQ;infer_instance
def nmC(c:Nat):Prop:=wQ c∨(48≤c∧c≤57)∨c=95
theorem Yd(c:Nat)(a:c<256):Ak env 153 [.int .u8 (c:Int)] (.p (.bool (decide (wQ c)))):=by
 refine Ak.enter (Af (by decide)) Tryz.func153 rfl (by kernel_rfl) (by simp) ?_
 repeat' (first|refine JD ?_|(apply Aj.guard;rfl;rfl)|(intro _))
 all_goals(refine Done.rt rfl rfl ⟨?_,rfl,rfl⟩;refine PV.Iy ?_;first|(refine decide_eq_decide.2 ⟨fun h=>by unfold wQ;omega,fun h=>by unfold wQ at h;omega⟩)|(symm;apply decide_eq_true;unfold wQ;omega)|(symm;apply decide_eq_false;unfold wQ;omega))
def DT(s:List UInt8):Prop:=0<s.length∧s.length≤32∧wQ (gi s 0).toNat∧∀i,1≤i→i<s.length→nmC (gi s i).toNat
noncomputable instance (s:List UInt8):Decidable (DT s):=Classical.propDecidable _
theorem IV(s:List UInt8)(z:s.length<9223372036854775808):Ak env 117 [.str (bs s)] (.p (.bool (decide (DT s)))):=by
 have c:=Yd (gi s 0).toNat (gi s 0).toNat_lt;by_cases x:s=[]
 ·subst x
  rw[decide_eq_false (show¬ DT [] from fun h=>absurd h.1 (by decide))];refine Ak.enter (Af (by decide)) Tryz.func117 rfl (by kernel_rfl) (by simp) ?_
  repeat' (first|refine Jq ?_|(apply Aa.eqS;rfl;rfl)|(apply Ad.AV;rfl))
  all_goals first|(refine Done.rt rfl rfl ⟨?_,rfl,rfl⟩;try rfl)|contradiction
 ·have f:0<s.length:=cX.2 x
  refine Ak.enter (Af (by decide)) Tryz.func117 rfl (by kernel_rfl) (by simp) ?_;by_cases m:s.length≤32
  ·by_cases o:wQ (gi s 0).toNat
   ·rw[decide_eq_true o] at c
    repeat' (first|(apply Aa.fn;rfl;rfl;exact c;intro _;rfl)|(apply Aa.U8 (i:=0);rfl;rfl;rfl;omega)|(apply Aa.Nc;rfl;rfl)|refine Jq ?_|(apply Aj.guard;rfl;rfl)|(apply Aa.int;rfl;rfl;rfl)|(apply Aa.eqS;rfl;rfl)|(apply Ad.AV;rfl)|(apply Ad.Ah;rfl)|(intro _;try(exfalso;omega)))
    all_goals try(exfalso;omega)
    all_goals try contradiction
    refine Ad.DR (fun k:Nat=>[(0,st s),(3,.p (.int .i64 (k:Int)))]) (fun _=>[]) 0 (fun k=>1≤k∧k≤s.length∧∀i,1≤i→i<k→nmC (gi s i).toNat) (fun k=>s.length-k) 1 (by omega) ⟨by omega,by omega,fun i e n=>by omega⟩ ⟨by omega,?_,?_⟩ ?_
    ·exact Du
    ·exact BF.nil
    rintro k ⟨r,y,g⟩;have b:=Yd (gi s k).toNat (gi s k).toNat_lt;have u:=(gi s k).toNat_lt;have a:nmC (gi s k).toNat→∀i,1≤i→i<k+1→nmC (gi s i).toNat:=fun h i e n=>by
     rcases aq i k with h3|h3
     ·exact g i e h3
     ·obtain rfl:i=k:=by omega
      exact h
    have l:k<s.length→¬ nmC (gi s k).toNat→decide (DT s)=false:=fun e n=>decide_eq_false fun h=>n (h.2.2.2 k r e)
    by_cases q:k<s.length
    ·by_cases d:wQ (gi s k).toNat
     ·rw[decide_eq_true d] at b
      repeat' (first|(apply Aa.fn;rfl;rfl;exact b;intro _;rfl)|(apply Aa.Nc;rfl;rfl)|(apply Aa.U8;rfl;rfl;rfl;omega)|refine Jq ?_|(apply Aa.int;rfl;rfl;rfl)|(apply Ad.Ac;rfl)|(apply Ad.cond_false;rfl)|(intro _;try(exfalso;omega)))
      all_goals try(exfalso;omega)
      refine Ai.normal ⟨k+1,⟨by omega,by omega,a (.inl d)⟩,by omega,⟨by omega,?_,?_⟩⟩
      ·exact Du
      ·exact BF.nil
     ·rw[decide_eq_false d] at b
      have j:nmC (gi s k).toNat↔(48≤(gi s k).toNat∧(gi s k).toNat≤57)∨(gi s k).toNat=95:=⟨fun h=>h.resolve_left d,fun h=>.inr h⟩
      repeat' (first|(apply Aa.fn;rfl;rfl;exact b;intro _;rfl)|(apply Aa.Nc;rfl;rfl)|(apply Aa.U8;rfl;rfl;rfl;omega)|refine Jq ?_|(apply Aj.guard;rfl;rfl)|(apply Aa.int;rfl;rfl;rfl)|(apply Ad.Ac;rfl)|(apply Ad.cond_false;rfl)|(apply Ad.Au;rfl)|(intro _;try(exfalso;omega)))
      all_goals try(exfalso;omega)
      all_goals first
       |(rw[l q (fun h=>by have:=j.1 h;omega)];(refine Done.rt rfl rfl ⟨?_,rfl,rfl⟩;try rfl);done)
       |(refine Ai.normal ⟨k+1,⟨by omega,by omega,a (j.2 (by omega))⟩,by omega,⟨by omega,?_,BF.nil⟩⟩;exact Du)
    ·obtain rfl:k=s.length:=by omega
     rw[decide_eq_true (show DT s from⟨f,m,o,fun i e n=>g i e n⟩)]
     repeat' (first|(apply Aa.Nc;rfl;rfl)|refine go1 ?_|(apply Ad.Ac;rfl)|(intro _;try(exfalso;omega)))
     all_goals first|(exfalso;omega)|(refine Done.rt rfl rfl ⟨?_,rfl,rfl⟩;try rfl)
   ·rw[decide_eq_false (show¬ DT s from fun h=>o h.2.2.1)]
    rw[decide_eq_false o] at c
    repeat' (first|(apply Aa.fn;rfl;rfl;exact c;intro _;rfl)|(apply Aa.U8 (i:=0);rfl;rfl;rfl;omega)|(apply Aa.Nc;rfl;rfl)|refine Jq ?_|(apply Aj.guard;rfl;rfl)|(apply Aa.int;rfl;rfl;rfl)|(apply Aa.eqS;rfl;rfl)|(apply Ad.AV;rfl)|(intro _;try(exfalso;omega)))
    all_goals first|(exfalso;omega)|contradiction|(refine Done.rt rfl rfl ⟨?_,rfl,rfl⟩;try rfl)
  ·rw[decide_eq_false (show¬ DT s from fun h=>m h.2.1)]
   repeat' (first|(apply Aa.Nc;rfl;rfl)|refine JD ?_|(apply Aj.guard;rfl;rfl)|(apply Aa.eqS;rfl;rfl)|(apply Ad.AV;rfl)|(intro _;try(exfalso;omega)))
   all_goals first|(exfalso;omega)|contradiction|(refine Done.rt rfl rfl ⟨?_,rfl,rfl⟩;try rfl)
noncomputable def CJ(r:H7):Int:=if¬ DT r.name∨¬ DT r.Kt then 8 else if SG r.Eu≠0 then SG r.Eu else if r.first< -256∨r.first>256 then 3 else if r.Fz.length=0 then 13 else if r.Fz.length>128 then 4 else Bf r.Fz
def QG(n:Int):Prop:=-256≤n∧n≤256
instance (n:Int):Decidable (QG n):=by unfold QG;infer_instance
theorem zG(n:Int):Ak env 155 [.int .i64 n] (.p (.bool (decide (QG n)))):=by
 refine Ak.enter (Af (by decide)) Tryz.func155 rfl (by kernel_rfl) (by simp) ?_
 repeat' (first|refine JD ?_|(apply Aj.guard;rfl;rfl)|(intro _))
 all_goals(refine Done.rt rfl rfl ⟨?_,rfl,rfl⟩;refine PV.Iy ?_;first|(refine decide_eq_decide.2 ⟨fun h=>by unfold QG;omega,fun h=>by unfold QG at h;omega⟩)|(symm;apply decide_eq_false;unfold QG;omega))
theorem Yx(r:H7)(k:r.name.length<9223372036854775808)(j:r.Kt.length<9223372036854775808)(i:r.Fz.length<9223372036854775808):Ak env 118 [.agg (Enc.enc r)] (.p (.int .i64 (CJ r))):=by
 have a:=IV r.name k;have b:=IV r.Kt j;have f:=ML r.Eu;have f1:=zG r.first;have g:=xO r.Fz i;unfold CJ;refine Ak.enter (Af (by decide)) Tryz.func118 rfl (by kernel_rfl) (by simp[Tryz.ntmps118]) ?_;by_cases e:DT r.name
 ·rw[decide_eq_true e] at a
  by_cases d:DT r.Kt
  ·rw[decide_eq_true d] at b
   rw[if_neg (fun h=>h.elim (fun h=>h e) (fun h=>h d))];by_cases c:QG r.first
   ·rw[decide_eq_true c] at f1
    unfold QG at c
    repeat' (first|(apply Aa.fn;rfl;rfl;exact a;intro _;rfl)|(apply Aa.fn;rfl;rfl;exact b;intro _;rfl)|(apply Aa.fn;rfl;rfl;exact f;intro _;rfl)|(apply Aa.fn;rfl;rfl;exact f1;intro _;rfl)|(apply Aa.fn;rfl;rfl;exact g;intro _;rfl)|refine Jq ?_|(apply Aa.int;rfl;rfl;rfl)|(apply Ad.Ah;rfl)|(apply Ad.Ac;rfl)|(apply Ad.cond_false;rfl)|(apply Ad.Au;rfl)|(intro _;try(exfalso;omega)))
    all_goals first
     |(rw[if_pos (by assumption)];(refine Done.rt rfl rfl ⟨?_,rfl,rfl⟩;try rfl);done)
     |(rw[if_neg (by assumption),if_neg (by omega),if_pos (by omega)];(refine Done.rt rfl rfl ⟨?_,rfl,rfl⟩;try rfl);done)
     |(rw[if_neg (by assumption),if_neg (by omega),if_neg (by omega),if_pos (by omega)];(refine Done.rt rfl rfl ⟨?_,rfl,rfl⟩;try rfl);done)
     |(rw[if_neg (by assumption),if_neg (by omega),if_neg (by omega),if_neg (by omega)];(refine Done.rt rfl rfl ⟨?_,rfl,rfl⟩;try rfl);done)
   ·rw[decide_eq_false c] at f1
    unfold QG at c
    repeat' (first|(apply Aa.fn;rfl;rfl;exact a;intro _;rfl)|(apply Aa.fn;rfl;rfl;exact b;intro _;rfl)|(apply Aa.fn;rfl;rfl;exact f;intro _;rfl)|(apply Aa.fn;rfl;rfl;exact f1;intro _;rfl)|refine Jq ?_|(apply Aa.int;rfl;rfl;rfl)|(apply Ad.Ah;rfl)|(apply Ad.Ac;rfl)|(apply Ad.cond_true;rfl)|(intro _;try(exfalso;omega)))
    all_goals first
     |(rw[if_pos (by assumption)];(refine Done.rt rfl rfl ⟨?_,rfl,rfl⟩;try rfl);done)
     |(rw[if_neg (by assumption),if_pos (by omega)];(refine Done.rt rfl rfl ⟨?_,rfl,rfl⟩;try rfl);done)
  ·rw[decide_eq_false d] at b
   rw[if_pos (.inr d)]
   repeat' (first|(apply Aa.fn;rfl;rfl;exact a;intro _;rfl)|(apply Aa.fn;rfl;rfl;exact b;intro _;rfl)|refine Jq ?_|(apply Ad.AV;rfl))
   all_goals(refine Done.rt rfl rfl ⟨?_,rfl,rfl⟩;try rfl)
 ·rw[decide_eq_false e] at a
  rw[if_pos (.inl e)]
  repeat' (first|(apply Aa.fn;rfl;rfl;exact a;intro _;rfl)|refine Jq ?_|(apply Ad.AV;rfl))
  all_goals(refine Done.rt rfl rfl ⟨?_,rfl,rfl⟩;try rfl)
end Go.Proofs.YtnjkoebfgcbbdaaGreatDoor
namespace Go.Proofs.YtnjkoebfgcbbdaaGreatDoor
open Go Go.Am Go.Vm
structure wX where
 rank:Int
 shift:Int
instance:Enc wX:={ default:=⟨0,0⟩,enc:=fun x=>[.int .i64 x.rank,.int .i64 x.shift],size:=2,len:=fun _=>rfl }
structure Seg where
 lo:Int
 hi:Int
 draws:List wX
instance:Enc Seg:={ default:=⟨0,0,[]⟩,enc:=fun x=>[.int .i64 x.lo,.int .i64 x.hi,.lst 270 (cells x.draws) x.draws.length],size:=3,len:=fun _=>rfl }
structure Stp where
 name:List UInt8
 Eu:L8
 Js:List Seg
instance:Enc Stp:={ default:=⟨[],⟨0,0⟩,[]⟩,enc:=fun x=>[.str (bs x.name),.int .i64 x.Eu.num,.int .i64 x.Eu.den,.lst 273 (cells x.Js) x.Js.length],size:=4,len:=fun _=>rfl }
structure og where
 name:List UInt8
 FC:Bool
 lo:Int
 hi:Int
 stops:List Stp
instance:Enc og:={ default:=⟨[],false,0,0,[]⟩,enc:=fun x=>[.str (bs x.name),.bool x.FC,.int .i64 x.lo,.int .i64 x.hi,.lst 229 (cells x.stops) x.stops.length],size:=5,len:=fun _=>rfl }
structure qc where
 name:List UInt8
 WQ:Int
 tgt:Int
 shift:Int
 through:Bool
instance:Enc qc:={ default:=⟨[],0,0,0,false⟩,enc:=fun x=>[.str (bs x.name),.int .i64 x.WQ,.int .i64 x.tgt,.int .i64 x.shift,.bool x.through],size:=5,len:=fun _=>rfl }
structure FQ where
 name:List UInt8
 ranks:List H7
 Ae:List og
 I8:List qc
instance:Enc FQ:={ default:=⟨[],[],[],[]⟩,enc:=fun x=>[.str (bs x.name),.lst 113 (cells x.ranks) x.ranks.length,.lst 118 (cells x.Ae) x.Ae.length,.lst 236 (cells x.I8) x.I8.length],size:=4,len:=fun _=>rfl }
structure pY where
 lo:Int
 hi:Int
instance:Enc pY:={ default:=⟨0,0⟩,enc:=fun x=>[.int .i64 x.lo,.int .i64 x.hi],size:=2,len:=fun _=>rfl }
noncomputable instance (a b:wX):Decidable (a=b):=Classical.propDecidable _
noncomputable instance (a:wX) (l:List wX):Decidable (a∈l):=Classical.propDecidable _
noncomputable instance (a:List UInt8) (l:List (List UInt8)):Decidable (a∈l):=Classical.propDecidable _
def Xg(lo hi:Int):Int:=if lo<0∨hi>127 then 3 else if lo>hi then 23 else 0
noncomputable def Td(n:Nat)(l:List wX)(k:Nat):Int :=
 if k<l.length then
  if(gi l k).rank<0∨(gi l k).rank≥n then 10 else if(gi l k).shift< -127∨(gi l k).shift>127 then 3 else if gi l k∈l.take k then 9 else Td n l (k+1)
 else 0
termination_by l.length-k
noncomputable def Zz(n:Nat)(l:List wX):Int:=if l.length>8 then 4 else Td n l 0
noncomputable def Oi(n:Nat)(lo hi:Int)(l:List Seg)(k:Nat):Int :=
 if k<l.length then
  if min (gi l k).lo (gi l k).hi<lo∨max (gi l k).lo (gi l k).hi>hi then 23 else if(gi l k).lo>(gi l k).hi∨0<k∧(gi l k).lo≤(gi l (k-1)).hi then 6
  else if Zz n (gi l k).draws≠0 then Zz n (gi l k).draws else Oi n lo hi l (k+1)
 else 0
termination_by l.length-k
noncomputable def c1x(n:Nat)(lo hi:Int)(s:Stp):Int :=
 if¬ DT s.name then 8 else if SG s.Eu≠0 then SG s.Eu else if s.Js.length=0 then 13 else if s.Js.length>12 then 4 else Oi n lo hi s.Js 0
noncomputable def gX(l:List H7)(k:Nat):Int :=
 if k<l.length then if CJ (gi l k)≠0 then CJ (gi l k) else gX l (k+1) else 0
termination_by l.length-k
noncomputable def qY(l:List H7)(lo hi:Int):Int:=if l.length>60 then 4 else if gX l 0≠0 then gX l 0 else Xg lo hi
noncomputable def Eb(rk:List H7)(lo hi:Int)(s:Stp):Int:=if qY rk lo hi≠0 then qY rk lo hi else c1x rk.length lo hi s
noncomputable def QY(l:List H7)(k:Nat):Int :=
 if k<l.length then if CJ (gi l k)≠0 then CJ (gi l k) else if(gi l k).name∈(l.take k).map H7.name then 9 else QY l (k+1) else 0
termination_by l.length-k
noncomputable def TB(rk:List H7)(lo hi:Int)(l:List Stp)(k:Nat):Int :=
 if k<l.length then if Eb rk lo hi (gi l k)≠0 then Eb rk lo hi (gi l k) else if(gi l k).name∈(l.take k).map Stp.name then 9 else TB rk lo hi l (k+1) else 0
termination_by l.length-k
noncomputable def DW(rk:List H7)(d:og):Int:=if Xg d.lo d.hi≠0 then Xg d.lo d.hi else if d.stops.length>60 then 4 else TB rk d.lo d.hi d.stops 0
noncomputable def GI(rk:List H7)(l:List og)(k:Nat):Int :=
 if k<l.length then if¬ DT (gi l k).name then 8 else if(gi l k).name∈(l.take k).map og.name then 9 else if DW rk (gi l k)≠0 then DW rk (gi l k) else GI rk l (k+1) else 0
termination_by l.length-k
noncomputable def SY(n:Nat)(l:List qc)(k:Nat):Int :=
 if k<l.length then
  if¬ DT (gi l k).name then 8 else if(gi l k).name∈(l.take k).map qc.name then 9
  else if(gi l k).WQ<0∨(gi l k).WQ≥n∨(gi l k).tgt<0∨(gi l k).tgt≥n then 10
  else if(gi l k).shift< -127∨(gi l k).shift>127 then 3 else if(gi l k).WQ=(gi l k).tgt∧(gi l k).shift=0 then 7 else SY n l (k+1)
 else 0
termination_by l.length-k
noncomputable def TT(l:List pY)(k:Nat):Int:=if k<l.length then if Xg (gi l k).lo (gi l k).hi≠0 then 23 else TT l (k+1) else 0
termination_by l.length-k
noncomputable def EF(ks:List pY)(l:List qc):Int:=if ks.length>8∨l.length>40 then 4 else if TT ks 0≠0 then TT ks 0 else SY ks.length l 0
noncomputable def VI(o:FQ):Int :=
 if¬ DT o.name then 8 else if o.ranks.length>60 then 4 else if QY o.ranks 0≠0 then QY o.ranks 0 else if o.Ae.length=0 then 13 else if o.Ae.length>8 then 4
 else if GI o.ranks o.Ae 0≠0 then GI o.ranks o.Ae 0 else EF (o.Ae.map fun d=>⟨d.lo,d.hi⟩) o.I8
structure c5d(x:Seg):Prop where
 draws:x.draws.length<1000000
structure qK(x:Stp):Prop where
 name:x.name.length<1000000
 Js:x.Js.length<1000000
 all:∀i,i<x.Js.length→c5d (gi x.Js i)
structure b8j(x:og):Prop where
 name:x.name.length<1000000
 stops:x.stops.length<1000000
 all:∀i,i<x.stops.length→qK (gi x.stops i)
structure jL(r:H7):Prop where
 name:r.name.length<1000000
 Kt:r.Kt.length<1000000
 Fz:r.Fz.length<1000000
structure Tm(o:FQ):Prop where
 name:o.name.length<1000000
 ranks:o.ranks.length<1000000
 Ae:o.Ae.length<1000000
 I8:o.I8.length<1000000
 rk:∀i,i<o.ranks.length→jL (gi o.ranks i)
 dv:∀i,i<o.Ae.length→b8j (gi o.Ae i)
 cp:∀i,i<o.I8.length→(gi o.I8 i).name.length<1000000
theorem jL.len{r:H7}(h:jL r):r.name.length<9223372036854775808∧r.Kt.length<9223372036854775808∧r.Fz.length<9223372036854775808:=⟨by have:=h.name;omega,by have:=h.Kt;omega,by have:=h.Fz;omega⟩
theorem lu{l:List H7}(h:∀i,i<l.length→CJ (gi l i)=0):∀n k,l.length-k=n→gX l k=0
 |0,k,hk=>by rw[gX,if_neg (by omega)]
 |n+1,k,hk=>by
  rw[gX,if_pos (by omega),if_neg (fun a=>a (h k (by omega)))];exact lu h n (k+1) (by omega)
theorem Xy{l:List H7}(h:∀i,i<l.length→CJ (gi l i)=0∧(gi l i).name∉(l.take i).map H7.name):∀n k,l.length-k=n→QY l k=0
 |0,k,hk=>by rw[QY,if_neg (by omega)]
 |n+1,k,hk=>by
  obtain⟨b,a⟩:=h k (by omega);rw[QY,if_pos (by omega),if_neg (fun c=>c b),if_neg a];exact Xy h n (k+1) (by omega)
theorem Us{a:List H7}{b c:Int}{l:List Stp}(h:∀i,i<l.length→Eb a b c (gi l i)=0∧(gi l i).name∉(l.take i).map Stp.name):∀n k,l.length-k=n→TB a b c l k=0
 |0,k,hk=>by rw[TB,if_neg (by omega)]
 |n+1,k,hk=>by
  obtain⟨e,d⟩:=h k (by omega);rw[TB,if_pos (by omega),if_neg (fun f=>f e),if_neg d];exact Us h n (k+1) (by omega)
theorem UA{b:List H7}{l:List og}(h:∀i,i<l.length→DT (gi l i).name∧(gi l i).name∉(l.take i).map og.name∧DW b (gi l i)=0):∀n k,l.length-k=n→GI b l k=0
 |0,k,hk=>by rw[GI,if_neg (by omega)]
 |n+1,k,hk=>by
  obtain⟨e,d,c⟩:=h k (by omega);rw[GI,if_pos (by omega),if_neg (fun a=>a e),if_neg d,if_neg (fun a=>a c)];exact UA h n (k+1) (by omega)
theorem Xt{l:List pY}(h:∀i,i<l.length→Xg (gi l i).lo (gi l i).hi=0):∀n k,l.length-k=n→TT l k=0
 |0,k,hk=>by rw[TT,if_neg (by omega)]
 |n+1,k,hk=>by
  rw[TT,if_pos (by omega),if_neg (fun a=>a (h k (by omega)))];exact Xt h n (k+1) (by omega)
structure a7m(n:Nat)(c:qc):Prop where
 name:DT c.name
 WQ:0≤c.WQ∧c.WQ<n
 tgt:0≤c.tgt∧c.tgt<n
 shift:-127≤c.shift∧c.shift≤127
 form:¬ (c.WQ=c.tgt∧c.shift=0)
theorem Uc{m:Nat}{l:List qc}(h:∀i,i<l.length→a7m m (gi l i)∧(gi l i).name∉(l.take i).map qc.name):∀n k,l.length-k=n→SY m l k=0
 |0,k,hk=>by rw[SY,if_neg (by omega)]
 |n+1,k,hk=>by
  obtain⟨⟨c,g,f,e,b⟩,a⟩:=h k (by omega);rw[SY,if_pos (by omega),if_neg (fun d=>d c),if_neg a,if_neg (by omega),if_neg (by omega),if_neg b];exact Uc h n (k+1) (by omega)
structure XJ(n:Nat)(d:wX):Prop where
 rank:0≤d.rank∧d.rank<n
 shift:-127≤d.shift∧d.shift≤127
theorem TM{m:Nat}{l:List wX}(h:∀i,i<l.length→XJ m (gi l i)∧gi l i∉l.take i):∀n k,l.length-k=n→Td m l k=0
 |0,k,hk=>by rw[Td,if_neg (by omega)]
 |n+1,k,hk=>by
  obtain⟨⟨c,b⟩,a⟩:=h k (by omega);rw[Td,if_pos (by omega),if_neg (by omega),if_neg (by omega),if_neg a];exact TM h n (k+1) (by omega)
theorem KC{m:Nat}{d:wX}(h:XJ m d):Zz m [d]=0:=by
 exact TM (fun i a=>by
  obtain rfl:i=0:=by grind
  exact⟨h,by simp⟩) _ 0 rfl
theorem b0s{m:Nat}{d e:wX}(h:XJ m d)(b:XJ m e)(a:e≠d):Zz m [d,e]=0:=by
 refine TM (fun i c=>?_) _ 0 rfl;have:i=0∨i=1:=by grind
 rcases this with rfl|rfl
 ·exact⟨h,by simp⟩
 ·exact⟨b,by simpa[gi] using a⟩
theorem Rl{a b:Int}(h:0≤a∧a≤b∧b≤127):Xg a b=0:=by
 unfold Xg;omega
theorem a3k{l:List H7}{a b:Int}(h:∀i,i<l.length→CJ (gi l i)=0)(e:l.length≤60)(c:0≤a∧a≤b∧b≤127):qY l a b=0:=by
 unfold qY;rw[if_neg (by omega),if_neg (fun d=>d (lu h _ 0 rfl)),Rl c]
structure c4p(n:Nat)(lo hi:Int)(g:Seg):Prop where
 pl:lo≤g.lo∧g.lo≤g.hi∧g.hi≤hi
 draws:Zz n g.draws=0
theorem UH{m:Nat}{lo hi:Int}{l:List Seg}(h:∀i,i<l.length→c4p m lo hi (gi l i)∧(0<i→(gi l (i-1)).hi<(gi l i).lo)):∀n k,l.length-k=n→Oi m lo hi l k=0
 |0,k,hk=>by rw[Oi,if_neg (by omega)]
 |n+1,k,hk=>by
  obtain⟨⟨d,b⟩,c⟩:=h k (by omega);rw[Oi,if_pos (by omega),if_neg (by omega),if_neg (fun a=>by
   omega),if_neg (fun a=>a b)]
  exact UH h n (k+1) (by omega)
theorem NC{n:Nat}{lo hi:Int}{s:Seg}(b:lo≤s.lo∧s.lo≤s.hi∧s.hi≤hi)(a:Zz n s.draws=0):Oi n lo hi [s] 0=0 :=
 UH (fun i hi=>by
  obtain rfl:i=0:=by grind
  exact⟨⟨b,a⟩,fun h=>by omega⟩) _ 0 rfl
theorem kH{n:Nat}{lo hi:Int}{s t:Seg}(a:lo≤s.lo∧s.lo≤s.hi∧s.hi<t.lo∧t.lo≤t.hi∧t.hi≤hi)(c:Zz n s.draws=0)(b:Zz n t.draws=0):Oi n lo hi [s,t] 0=0 :=
 UH (fun i hi=>by
  have:i=0∨i=1:=by grind
  rcases this with rfl|rfl
  ·exact⟨⟨⟨a.1,a.2.1,show s.hi≤_ by omega⟩,c⟩,fun h=>by omega⟩
  ·exact⟨⟨⟨show lo≤t.lo by omega,a.2.2.2⟩,b⟩,fun _=>a.2.2.1⟩) _ 0 rfl
def O9(c:UInt8)(i:Int):List UInt8:=[c,UInt8.ofNat (48+i).toNat]
theorem b6m{c:UInt8}{i j:Nat}(b:i<10)(a:j<10)(h:O9 c i=O9 c j):i=j:=by
 simp only[O9,List.cons.injEq,and_true,true_and] at h;have:=congrArg UInt8.toNat h;rw[UInt8.toNat_ofNat',UInt8.toNat_ofNat'] at this;omega
theorem zA{c:UInt8}(a:wQ c.toNat){i:Nat}(d:i<10):DT (O9 c i):=by
 refine⟨by simp[O9],by simp[O9],a,fun j f b=>?_⟩;obtain rfl:j=1:=by simp[O9] at b;omega
 have e:(gi (O9 c i) 1).toNat=48+i:=by
  show(UInt8.ofNat (48+(i:Int)).toNat).toNat=_;rw[UInt8.toNat_ofNat'];omega
 right;omega
theorem mg{α:Type}[Inhabited α]{f:α→List UInt8}{c:UInt8}{l:List α}(p:l.length≤10)(h:∀i,i<l.length→f (gi l i)=O9 c i){k:Nat}(g:k<l.length):f (gi l k)∉(l.take k).map f:=by
 intro b;rw[ba] at b;obtain⟨a,n,d⟩:=b;obtain⟨j,m,e⟩:=ed n;rw[ar] at m;have o:a=gi l j:=by
  rw[← e,List.getElem_take];simp[gi,List.getElem?_eq_getElem (show j<l.length by omega)]
 rw[o,h j (by omega),h k g] at d;have:=b6m (by omega) (by omega) d;omega
attribute [local irreducible] Aa Aj Ag Ad AL Ak Bd BL Bl Ai Vm.Done BD AO Qh
end Go.Proofs.YtnjkoebfgcbbdaaGreatDoor
namespace Go.Proofs.YtnjkoebfgcbbdaaGreatDoor
open Go Go.Am Go.Vm
attribute [local irreducible] Aa Aj Ag Ad AL Ak Bd BL Bl Ai Vm.Done BD AO
attribute [local irreducible] CJ Bf shz A8
def c8w(r:H7):Prop:=r.name.length<9223372036854775808∧r.Kt.length<9223372036854775808∧r.Fz.length<9223372036854775808
noncomputable def YM(r:H7)(n:Int):Int:=if CJ r≠0 then CJ r else if n<0∨n≥r.Fz.length then 10 else 0
def LP:FV:=.agg [.str ⟨#[]⟩,.str ⟨#[]⟩,.int .i64 0,.int .i64 0,.int .i64 0,.val (.slice none 0 0)]
def b6o(r:H7)(n:Int)(w:List Int):FV×Int:=if w.length>128 then(LP,4) else if¬ QG n then(LP,3) else(.agg (Enc.enc { r with first:=n,Fz:=w }),0)
noncomputable def c9c(r:H7)(k:Int):Int×Bool×Int:=if YM r k≠0 then(0,false,YM r k) else if(A8 r.Eu ⟨8,1⟩).2≠0∨r.first+k+(A8 r.Eu ⟨8,1⟩).1<0∨r.first+k+(A8 r.Eu ⟨8,1⟩).1>127 then(0,false,(A8 r.Eu ⟨8,1⟩).2) else(r.first+k+(A8 r.Eu ⟨8,1⟩).1,true,0)
noncomputable def d0v(r:H7)(n:Int):Int×Bool×Int:=if CJ r≠0 then(0,false,CJ r) else if n<r.first∨n≥r.first+r.Fz.length then(0,false,0) else(n-r.first,true,0)
noncomputable def c8k(r:H7)(w:List Int):FV×Int:=if CJ r≠0 then(LP,CJ r) else if Bf w≠0 then(LP,Bf w) else b6o r (r.first-w.length) (w++r.Fz)
noncomputable def d0q(r:H7)(f:L8):FV×Int:=if CJ r≠0 then(LP,CJ r) else if(A8 f r.Eu).2≠0 then(LP,(A8 f r.Eu).2) else if QG (r.first-(A8 f r.Eu).1) then(.agg (Enc.enc { r with first:=r.first-(A8 f r.Eu).1,Eu:=f }),0) else(LP,3)
attribute [local irreducible] YM
noncomputable def d5h(r:H7)(n:Int):Int×Int:=if YM r n≠0 then(0,YM r n) else(r.first+n,0)
noncomputable def d5x(r:H7)(n:Int):Int×Int:=if YM r n≠0 then(0,YM r n) else(gi r.Fz n.toNat,0)
noncomputable def d3w(r:H7)(w:List Int):FV×Int:=if CJ r≠0 then(LP,CJ r) else if Bf w≠0 then(LP,Bf w) else b6o r r.first (r.Fz++w)
def c3k(l:List Int):Nat→Int
 |0=>0
 |k+1=>c3k l k+gi l k
noncomputable def d4d(r:H7):Int×Int:=if CJ r≠0 then(0,CJ r) else(c3k r.Fz r.Fz.length,0)
def SS:List L8:=[⟨8,1⟩,⟨4,1⟩,⟨16,1⟩,⟨2,1⟩,⟨8,3⟩,⟨8,5⟩,⟨4,3⟩,⟨1,1⟩,⟨32,1⟩,⟨16,3⟩,⟨16,5⟩,⟨32,3⟩,⟨8,7⟩,⟨2,3⟩,⟨1,2⟩,⟨64,1⟩]
theorem a3p(n:Nat)(b:n<256):Ak env 150 [.int .u8 (n:Int)] (.p (.agg (Enc.enc (gi SS (n%16))))):=by
 refine Ak.enter (Af (by decide)) Tryz.func150 rfl (by kernel_rfl) (by simp[Tryz.ntmps150]) ?_;have a:n%16<16:=bc _ (by decide)
 repeat' (first|(refine Aj.Il 22 ?_;refine Aj.ghost (Aq.freeze 19 rfl rfl) ?_)|apply Ad.Bo|apply Ad.ret|apply Aj.nil|apply Aj.one|(apply Aa.Ap (l:=SS) (i:=n%16);rfl;rfl;rfl;exact a;rfl)|(apply Aa.move;rfl)|(apply Aa.yj;rfl;rfl;omega;omega)|(apply Aa.load;rfl;rfl)|(apply Aa.alloc;rfl)|(apply Aa.Gl;rfl;rfl;rfl;trivial;rfl;rfl;exact Ba rfl;exact le_dec rfl)|(apply Aa.build;rfl;rfl;rfl;rfl;rfl)|(apply Aa.buildSlice;rfl;rfl;rfl;decide;rfl;rfl;rfl))
 all_goals(refine Done.rt rfl rfl ⟨?_,rfl,rfl⟩;try rfl)
end Go.Proofs.YtnjkoebfgcbbdaaGreatDoor
