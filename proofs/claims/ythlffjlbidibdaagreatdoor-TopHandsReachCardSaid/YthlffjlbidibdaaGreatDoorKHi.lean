/-
  Texts of a proof, merged (IntA, IntB, FraA, RkB, RkC, OrA, OrB, RkA). Conditions: in each statement.
-/
import Derived.Test.YthlffjlbidibdaaGreatDoorKHh
set_option linter.unusedSimpArgs false
set_option autoImplicit true
set_option relaxedAutoImplicit true
set_option linter.unusedVariables false
set_option linter.unusedSectionVars false
set_option maxRecDepth 100000
set_option maxHeartbeats 8000000
abbrev ep:=@Nat.pow_mul
abbrev eQ:=@Int.natCast_mul
abbrev fh:=@Nat.pow_lt_pow_iff_right
abbrev fy:=@Nat.mul_one
abbrev gj:=@List.mem_of_mem_take
abbrev gt:=@Nat.pow_lt_pow_left
abbrev gC:=@Nat.mul_lt_mul_of_lt_of_le
abbrev iA:=@Nat.eq_of_testBit_eq
abbrev js:=@Nat.le_of_lt
namespace Go.Proofs.YthlffjlbidibdaaGreatDoor
section
open Go Go.Am Go.Vm
attribute [local irreducible] Aa Ah Ai Ad AL Ak Bf BK Bj Aj Vm.Done Bv AP
theorem kV(l:List Nat)(j:l.length<1000000):Ak env 128 [.lst 104 (cells l) l.length] (lst 104 (Num.MP l)):=by
 refine Ak.enter (Af (by decide)) Tryz.func128 rfl (by kernel_rfl) (by simp[Tryz.ntmps128]) ?_
 repeat' (first|refine go1 ?_|fail)
 refine eD (fun a:List Nat=>[(0,lst 104 a)]) (fun _=>[]) 0 (fun a=>a.length≤l.length∧Num.MP a=Num.MP l) (fun a=>a.length) l (ab _) ⟨by omega,rfl⟩ ⟨ab _,?_,trivial⟩ ?_
 ·exact Dh
 rintro a ⟨k,c⟩;have b:0<a.length→a=a.take (a.length-1)++[gi a (a.length-1)]:=fun h=>by
  conv=>lhs;rw[← fS (a.length-1) a]
  congr 1
  rw[bO (by omega),fw (by omega)];simp[gi,List.getElem?_eq_getElem (show a.length-1<a.length by omega)]
 repeat' (first|(apply pg;rfl;rfl;rfl;omega;omega;rfl)|refine Fj ?_|apply j6|(apply Ah.guard;rfl;rfl)|(apply Aa.b4q;rfl;rfl;rfl;rfl;rfl;rfl;omega)|(apply cn;rfl)|(apply a8;rfl)|(intro _;try omega))
 ·rename_i d g
  have i:((a.length:Int)-1).toNat=a.length-1:=by omega
  have f:gi a (a.length-1)=0:=by omega
  refine Aj.normal ⟨a.take (a.length-1),⟨by simp;omega,?_⟩,by simp;omega,⟨ab _,?_,trivial⟩⟩
  ·have:=b (by omega)
   rw[f] at this;rw[← c]
   conv=>rhs;rw[this]
   rw[Num.Yf]
  ·rw[i];exact Dh
 ·rename_i d g
  refine aa ?_;have e:Num.MP a=a:=by
   have:=b (by omega)
   conv=>lhs;rw[this]
   rw[Num.bD _ (by omega),← this]
  rw[← c,e]
 ·rename_i d
  refine aa ?_;have:a=[]:=br (by omega);rw[← c,this];rfl
theorem U8(m n:List Nat)(J:Num.jJ m)(G:Num.jJ n)(I:m.length<400000)(F:n.length<400000) :
 Ak env 211 [.lst 104 (cells m) m.length,.lst 104 (cells n) n.length] (lst 104 (Num.toL (Num.val m*Num.val n))):=by
 refine Ak.enter (Af (by decide)) Tryz.func211 rfl (by kernel_rfl) (by simp[Tryz.ntmps211]) ?_;obtain⟨T,U⟩:∃T,T=m.length+n.length+1:=⟨_,rfl⟩
 repeat' (first|(apply ll T (0:Nat);rfl;rfl;rfl;rfl;rfl;omega;omega;omega;decide;decide;rfl)|refine go1 ?_|fail)
 refine eD (fun a:Nat×List Nat=>[(0,lst 104 m),(1,lst 104 n),(5,.vec 0 T 0 T),(19,lst 104 m),(20,.p (.int .i64 m.length)),(21,.p (.int .i64 (a.1:Int)))]) (fun a=>[(0,.vec 104 (cells a.2) T false)]) 1
  (fun a=>a.1≤m.length∧a.2.length=T∧Num.jJ a.2∧Num.val a.2=Num.val (m.take a.1)*Num.val n∧∀j,a.1+n.length≤j→gi a.2 j=0) (fun a=>m.length-a.1) (0,List.replicate T 0) (by omega)
  ⟨by simp,by simp,Num.jZ _,by simp[Num.jW,Num.val],fun j _=>Num.WC _ _⟩ ⟨ab _,?_,?_⟩ ?_
 ·exact Dh
 ·exact DT
 rintro⟨i,q⟩ ⟨M,r,l,g,f⟩;simp only at M r l g f;dsimp only;by_cases u:i<m.length
 ·have S:=Num.a0n J i
  repeat' (first|refine b9 ?_|refine Fj ?_|(apply a8;rfl)|(intro _;try omega))
  refine eD (fun a:Nat×Nat×List Nat=>[(0,lst 104 m),(1,lst 104 n),(5,.vec 0 T 0 T),(6,.p (.int .i64 (i:Int))),(7,.p (.int .u64 ((gi m i:Nat):Int))),(8,.p (.int .u64 (a.2.1:Int))),(19,lst 104 m),(20,.p (.int .i64 m.length)),(21,.p (.int .i64 (i:Int))),(26,lst 104 n),(27,.p (.int .i64 n.length)),(28,.p (.int .i64 (a.1:Int)))]) (fun a=>[(0,.vec 104 (cells a.2.2) T false)]) 1
   (fun a=>a.1≤n.length∧a.2.1<1000000000∧a.2.2.length=T∧Num.jJ a.2.2∧Num.val a.2.2+a.2.1*Num.B9^(i+a.1)=Num.val q+gi m i*Num.B9^i*Num.val (n.take a.1)∧∀j,i+n.length≤j→gi a.2.2 j=0) (fun a=>n.length-a.1) (0,0,q) (by omega)
   ⟨by simp,by simp,r,l,by simp[Num.val],f⟩ ⟨ab _,?_,?_⟩ ?_
  ·exact Dh
  ·exact DT
  rintro⟨k,c,o⟩ ⟨K,N,h,d,e,b⟩;simp only at K N h d e b;dsimp only;by_cases x:k<n.length
  ·have R:=Num.a0n G k
   have P:=Num.a0n d (i+k);have O:gi m i*gi n k≤999999999*999999999:=di (by omega) (by omega)
   repeat' (first|(apply kz (y:=(gi o (i+k)+gi m i*gi n k+c)%1000000000);rfl;rfl;rfl;trivial;(first|rfl|(refine congrArg (fun t=>[PV.p (FV.int _ t)]) ?_;first|omega|(simp only[Int.natCast_add,Int.natCast_mul,Int.natCast_ediv,Int.natCast_emod]<;>omega)));rfl;rfl;decide;(first|omega|(simp only[List.length_set]<;>omega)))|refine b9 ?_|(apply g9;rfl;rfl;rfl;rfl;omega)|refine KP ?_|refine a7 ?_|(apply a8;rfl)|(intro _;try omega))
   refine Aj.normal ⟨(k+1,(gi o (i+k)+gi m i*gi n k+c) / 1000000000,o.set (i+k) ((gi o (i+k)+gi m i*gi n k+c)%1000000000)),⟨by simp only;omega,?_,by simp[h],?_,?_,?_⟩,by simp only;omega,⟨ab _,?_,?_⟩⟩
   ·simp only
    apply df;omega
   ·exact Num.a7m d (be _ (by decide))
   ·simp only
    rw[Num.UK n k x];exact Num.b8k (by omega) e
   ·intro j A
    simp only;rw[Num.Ht _ _ _ _ (by omega),if_neg (by omega)];exact b j A
   ·exact Dh
   ·exact DT
  ·have z:k=n.length:=by omega
   subst z;have C:=b (i+n.length) (by omega)
   repeat' (first|(apply kz (y:=gi o (i+n.length)+c);rfl;rfl;rfl;trivial;(first|rfl|(refine congrArg (fun t=>[PV.p (FV.int _ t)]) ?_;first|omega|(simp only[Int.natCast_add,Int.natCast_mul,Int.natCast_ediv,Int.natCast_emod]<;>omega)));rfl;rfl;decide;(first|omega|(simp only[List.length_set]<;>omega)))|(apply g9;rfl;rfl;rfl;rfl;omega)|refine KP ?_|refine a7 ?_|(apply a8;rfl)|(intro _;try omega))
   refine Aj.normal ⟨(i+1,o.set (i+n.length) (gi o (i+n.length)+c)),⟨by simp only;omega,by simp[h],?_,?_,?_⟩,by simp only;omega,⟨ab _,?_,?_⟩⟩
   ·refine Num.a7m d ?_
    rw[C];simp only[Num.B9];omega
   ·simp only
    rw[Num.c0o (by omega) C e,g,cd,Num.UK m i u,cL]
   ·intro j A
    simp only at A;simp only;rw[Num.Ht _ _ _ _ (by omega),if_neg (by omega)];exact b j (by omega)
   ·exact Dh
   ·exact DT
 ·have B:i=m.length:=by omega
  subst B;have s:=kV q (by omega);rw[r] at s
  repeat' (first|(refine Ad.at 14 ?_;refine cb (b6 5 rfl rfl) ?_;first|apply ce|apply da)|apply ce|refine a6 s ?_|refine go2 ?_|refine a7 ?_|(apply a8;rfl)|(intro _;try omega))
  ·refine aa ?_
   rw[Num.zU l,g,cd]
end
section
open Go Go.Am Go.Vm
attribute [local irreducible] Aa Ah Ai Ad AL Ak Bf BK Bj Aj Vm.Done Bv AP
theorem zB{p:UInt8→Prop}(h:∀c∈l,p c)(i:Nat)(a:i<l.length):p (gi l i):=by
 simp only[gi,List.getElem?_eq_getElem a,Option.getD_some];grind
theorem b1o(n:Nat)(V:Lib.nDigits n<900000):Ak env 126 [.str (bs (Lib.decDigits n))] (lst 104 (Num.toL n)):=by
 refine Ak.enter (Af (by decide)) Tryz.func126 rfl (by kernel_rfl) (by simp[Tryz.ntmps126]) ?_;obtain⟨d,y⟩:∃d,d=Lib.decDigits n:=⟨_,rfl⟩
 obtain⟨K,z⟩:∃K,K=Lib.nDigits n:=⟨_,rfl⟩
 have u:d.length=K:=by rw[y,z,Lib.decDigits_length]
 have x:d=Num.D K n:=by rw[y,z,Num.EZ]
 rw[← y]
 repeat' (first|(apply j8;rfl;rfl)|refine go1 ?_|fail)
 refine cb (iD 3 104 rfl) ?_;refine eD (fun k:Nat=>[(0,st d),(3,.vec 0 (Num.limbs n k).length 0 (Num.limbs n k).length),(4,.p (.int .i64 ((K:Int)-9*(k:Int))))]) (fun k=>[(0,.vec 104 (cells (Num.limbs n k)) (Num.limbs n k).length true)]) 1 (fun k=>9*k<K+9) (fun k=>K+9-9*k) 0 (by omega) (by omega) ⟨ab _,?_,?_⟩ ?_
 ·rw[← u];refine GZ.cons trivial rfl (.refl _) ?_;exact Dh
 ·exact BN.cons (by decide) trivial rfl (.refl _) BN.nil
 intro k W;have M:=Num.OQ n k;by_cases J:9*k<K
 ·obtain⟨e,X⟩:∃e,e=K-9*k:=⟨_,rfl⟩
  obtain⟨c,C⟩:∃c,c=min 9 e:=⟨_,rfl⟩
  obtain⟨p,b⟩:∃p,p=Num.D c (n / 10^(9*k)):=⟨_,rfl⟩
  have I:p.length=c:=by rw[b,Num.FB]
  have q:List.drop (max ((K:Int)-9*(k:Int)-9) 0).toNat (List.take ((K:Int)-9*(k:Int)).toNat d)=p:=by
   rw[show((K:Int)-9*(k:Int)).toNat=e by omega,show(max ((K:Int)-9*(k:Int)-9) 0).toNat=e-c by omega,x,Num.vk K n e c (by omega) (by omega),b];rw[show K-e=9*k by omega]
  have A:Num.parse p=Num.sG n k:=by
   rw[b,Num.WI];unfold Num.sG;rw[show Num.B9^k=10^(9*k) by rw[ep]];by_cases R:c=9
   ·rw[R]
   ·have f:n / 10^(9*k)<10^c:=by
     apply df;rw[← cM,show 9*k+c=K by omega,z];exact Lib.lt_pow_nDigits n
    have N:10^c≤Num.B9:=by
     have:10^c≤10^9:=aD (by decide) (by omega);exact this
    rw[bu f,bu (by omega)]
  have l:∀i,i<p.length→48≤(gi p i).toNat∧(gi p i).toNat≤57:=fun i O=>zB (p:=fun c=>48≤c.toNat∧c.toNat≤57) (by rw[b];exact Num.qC _ _) i O
  have o:∀j,j≤p.length→Num.parse (p.take j)<1000000000:=fun j s=>by
   have F:=Num.wI (p.take j) (fun c C=>by
    have B:=gj C;rw[b] at B;exact Num.qC _ _ c B)
   rw[av,cD s] at F;have S:10^j≤10^9:=aD (by decide) (by omega);exact ag F S
  repeat' (first|(apply eC;rfl;rfl;rfl)|refine Fj ?_|(rw[q])|(apply rS;rfl;rfl;rfl;rfl;omega)|(apply lE;rfl;rfl;rfl;rfl;rfl;rfl;omega)|(apply lO;rfl;rfl)|(apply a8;rfl)|(intro _;try omega))
  refine eD (fun j:Nat=>[(0,st d),(3,.vec 0 (Num.limbs n k).length 0 (Num.limbs n k).length),(4,.p (.int .i64 ((K:Int)-9*(k:Int)))),(5,.p (.int .u64 ((Num.parse (p.take j):Nat):Int))),(20,.vec 1 p.length 0 p.length),(21,.p (.int .i64 p.length)),(22,.p (.int .i64 (j:Int)))])
   (fun _=>[(1,.vec 5 (cells p) p.length false),(0,.vec 104 (cells (Num.limbs n k)) (Num.limbs n k).length true)]) 2 (fun j=>j≤p.length) (fun j=>p.length-j) 0 (by omega) (by omega) ⟨ab _,?_,?_⟩ ?_
  ·exact Dh
  ·exact DT
  intro j s;have U:=o j s;by_cases g:j<p.length
  ·have P:=l j g
   repeat' (first|(apply g9;rfl;rfl;rfl;rfl;omega)|refine Fj ?_|(apply mf;rfl;rfl;rfl;rfl;omega)|(apply a8;rfl)|(intro _;try omega))
   refine Aj.normal ⟨j+1,by omega,by omega,⟨by omega,?_,?_⟩⟩
   ·rw[Num.parse_snoc' p j g];exact Dh
   ·exact DT
  ·have r:j=p.length:=by omega
   subst r
   repeat' (first|refine d7 (a:=(Num.parse (p.take p.length))) ?_|refine Fh ?_|refine a7 ?_|refine bi ?_|(apply a8;rfl)|(intro _;try omega))
   have T:Num.limbs n k++[Num.parse (p.take p.length)]=Num.limbs n (k+1):=by rw[cd,A,Num.limbs]
   have G:(Num.limbs n (k+1)).length=(Num.limbs n k).length+1:=by rw[Num.OQ,Num.OQ]
   refine Aj.normal ⟨k+1,by omega,by omega,⟨by omega,?_,?_⟩⟩
   ·rw[G,show(K:Int)-9*((k+1:Nat):Int)=(K:Int)-9*(k:Int)-9 by omega];exact Dh
   ·rw[G,← T];exact DT
 ·have m:=kV (Num.limbs n k) (by omega)
  repeat' (first|(refine Ad.at 12 ?_;refine cb (b6 3 rfl rfl) ?_;first|apply ce|apply da)|refine a6 m ?_|refine go2 ?_|apply ce|refine a7 ?_|(apply a8;rfl)|(intro _;try omega))
  ·refine aa ?_
   rw[Num.a0v];rw[show Num.B9^k=10^(9*k) by rw[ep]];exact ag (Lib.lt_pow_nDigits n) (aD (by decide) (by omega))
end
section
open Go Go.Am Go.Vm
attribute [local irreducible] Aa Ah Ai Ad AL Ak Bf BK Bj Aj Vm.Done Bv AP
theorem b3o
 (g:AY env.Γ L e=some (.clo 155 a cs)) (i:evs env.Γ L args.toList=some xs) (b:Tryz.f155.body=some c) (f:(a++xs++cs).length≤Tryz.f155.ntmps)
 (h:Ad env nx c (CS 0 (a++xs++cs)) H nx (AP env.P Tryz.f155.results.toList Q)):Aa env true ⟨dst,.call { callee:=.value e,args:=args,argTypes:=j },ty,pos,af,gd⟩ L H nx Q:=by
 have d:(match Tryz.f155.body with|some c=>IV env.G Tryz.f155 c|none=>false)=true:=by kernel_rfl
 rw[b] at d;exact Aa.inline rfl g i (Af (by decide)) Tryz.func155 b d f h
theorem b4w
 (g:AY env.Γ L e=some (.clo 190 a cs)) (i:evs env.Γ L args.toList=some xs) (b:Tryz.f190.body=some c) (f:(a++xs++cs).length≤Tryz.f190.ntmps)
 (h:Ad env nx c (CS 0 (a++xs++cs)) H nx (AP env.P Tryz.f190.results.toList Q)):Aa env true ⟨dst,.call { callee:=.value e,args:=args,argTypes:=j },ty,pos,af,gd⟩ L H nx Q:=by
 have d:(match Tryz.f190.body with|some c=>IV env.G Tryz.f190 c|none=>false)=true:=by kernel_rfl
 rw[b] at d;exact Aa.inline rfl g i (Af (by decide)) Tryz.func190 b d f h
theorem yB
 (g:AY env.Γ L e=some (.clo 184 a cs)) (i:evs env.Γ L args.toList=some xs) (b:Tryz.f184.body=some c) (f:(a++xs++cs).length≤Tryz.f184.ntmps)
 (h:Ad env nx c (CS 0 (a++xs++cs)) H nx (AP env.P Tryz.f184.results.toList Q)):Aa env true ⟨dst,.call { callee:=.value e,args:=args,argTypes:=j },ty,pos,af,gd⟩ L H nx Q:=by
 have d:(match Tryz.f184.body with|some c=>IV env.G Tryz.f184 c|none=>false)=true:=by kernel_rfl
 rw[b] at d;exact Aa.inline rfl g i (Af (by decide)) Tryz.func184 b d f h
theorem zK(n:Nat):¬ (List.take 1 (Lib.decDigits n)=[45]):=fun h=>by
 have a:=Num.Lp n 45 (gj (by rw[h];simp));grind
theorem a5n(n:Nat):0<(Lib.decDigits n).length:=by rw[Lib.decDigits_length];exact Lib.nDigits_pos n
theorem c3y(h:Lib.decDigits a=Lib.decDigits b):a=b:=by
 have c:Lib.nDigits a=Lib.nDigits b:=by rw[← Lib.decDigits_length,← Lib.decDigits_length,h]
 rw[Num.EZ,Num.EZ,c] at h;have:=congrArg Num.parse h;rw[Num.WI,Num.WI,bu (by rw[← c];exact Lib.lt_pow_nDigits a),bu (Lib.lt_pow_nDigits b)] at this;omega
theorem fG(a:Nat):Lib.decDigits a=[48]↔a=0:=by
 have:Lib.decDigits 0=[48]:=by rw[Lib.decDigits_one (by decide)];rfl
 rw[← this];exact⟨c3y,fun h=>by rw[h]⟩
theorem a8c(n:Nat):Num.parse (Lib.decDigits n)=n:=by
 rw[Num.EZ,Num.WI,bu (Lib.lt_pow_nDigits n)]
theorem b6w(n:Nat):Ak env 124 [.str (bs (Lib.decDigits n)),.str (bs [45])] (.DK [st (Lib.decDigits n),.p (.bool false)]):=by
 refine Ak.enter (Af (by decide)) Tryz.func124 rfl (by kernel_rfl) (by simp[Tryz.ntmps124]) ?_;have b:=zK n;have a:=a5n n
 repeat' (first|(apply b3o;rfl;rfl;rfl;exact le_dec rfl)|(apply yB;rfl;rfl;rfl;exact le_dec rfl)|(apply j8;rfl;rfl)|refine Fj ?_|(apply AP.ret;rfl)|(apply Ah.guard;rfl;rfl)|(apply kq;rfl;rfl)|(apply pL;rfl;rfl;rfl;omega)|(apply sc;rfl;rfl;rfl;omega)|(apply ei;rfl)|(apply Ad.Ub;rfl)|(intro _;try omega))
 ·refine aa ?_
  rfl
 ·exfalso;simp_all
 ·exfalso;simp_all;omega
theorem cut_spec'(n:Nat):Ak env 124 [.str (bs (Lib.decDigits n)),.str ⟨#[45]⟩] (.DK [st (Lib.decDigits n),.p (.bool false)]):=b6w n
theorem Vx(n:Nat)(a:Lib.nDigits n<900000):Ak env 83 [.str (bs (Lib.decDigits n))] (.DK [lst 104 (Num.toL n),.p (.bool false)]):=by
 refine Ak.enter (Af (by decide)) Tryz.func83 rfl (by kernel_rfl) (by simp) ?_
 repeat' (first|refine a6 (cut_spec' n) ?_|refine a6 (b1o n a) ?_|refine go1 ?_|fail)
 ·refine aa ?_
  rfl
theorem YO(n:Nat)(b:(Num.toL n).length<1000000):Ak env 84 [.lst 104 (cells (Num.toL n)) (Num.toL n).length,.bool false] (st (Lib.decDigits n)):=by
 refine Ak.enter (Af (by decide)) Tryz.func84 rfl (by kernel_rfl) (by simp) ?_;have a:=xQ (Num.toL n) (Num.NR n) (by omega);rw[Num.lF] at a
 repeat' (first|refine a6 a ?_|refine Fh ?_|(apply cn;rfl))
 ·refine aa ?_
  rfl
theorem aI(n:Int)(h:-9223372036854775808≤n∧n≤9223372036854775807):Ak env 82 [.int .i64 n] (st (Lib.itoa n)):=by
 refine Ak.enter (Af (by decide)) Tryz.func82 rfl (by kernel_rfl) (by simp) ?_
 repeat' (first|refine a6 (b3r n h) ?_|refine go1 ?_|fail)
 ·refine aa ?_
  rfl
theorem uY(n:Nat):Lib.itoa (n:Int)=Lib.decDigits n:=by rfl
theorem Qo(n g:Nat)(A:g≤18):Ak env 81 [.str (bs (Lib.decDigits n)),.int .i64 (g:Int)] (.DK [.p (.int .i64 ((if Lib.nDigits n≤g then n else 0:Nat):Int)),.p (.bool (decide (Lib.nDigits n≤g)))]):=by
 refine Ak.enter (Af (by decide)) Tryz.func81 rfl (by kernel_rfl) (by simp[Tryz.ntmps81]) ?_;have s:=Lib.decDigits_length n;by_cases a:Lib.nDigits n≤g
 ·rw[if_pos a,decide_eq_true a]
  obtain⟨d,h⟩:∃d,d=Lib.decDigits n:=⟨_,rfl⟩
  have k:=cut_spec' n;rw[← h] at s k ⊢;have f:∀i,i<d.length→48≤(gi d i).toNat∧(gi d i).toNat≤57:=fun i u=>zB (p:=fun c=>48≤c.toNat∧c.toNat≤57) (by rw[h];exact Num.Lp n) i u
  have e:∀j,j≤d.length→Num.parse (d.take j)<1000000000000000000:=fun j o=>by
   have r:=Num.wI (d.take j) (fun c k=>by
    have q:=gj k;rw[h] at q;exact Num.Lp n c q)
   rw[av,cD o] at r;have y:10^j≤10^18:=aD (by decide) (by omega);exact ag r y
  repeat' (first|refine a6 k ?_|(apply eC;rfl;rfl;rfl)|(apply j8;rfl;rfl)|refine go1 ?_|refine a7 ?_|(apply lE;rfl;rfl;rfl;rfl;rfl;rfl;omega)|(apply a8;rfl)|(intro _;try omega))
  refine eD (fun j:Nat=>[(7,.p (.bool false)),(8,.p (.int .i64 ((Num.parse (d.take j):Nat):Int))),(21,.vec 0 d.length 0 d.length),(22,.p (.int .i64 d.length)),(23,.p (.int .i64 (j:Int)))])
   (fun _=>[(0,.vec 5 (cells d) d.length false)]) 1 (fun j=>j≤d.length) (fun j=>d.length-j) 0 (by omega) (by omega) ⟨ab _,?_,?_⟩ ?_
  ·exact Dh
  ·exact DT
  intro j o;have z:=e j o;by_cases b:j<d.length
  ·have x:=f j b
   have l:=e (j+1) b;rw[Num.parse_snoc' d j b] at l
   repeat' (first|(apply g9;rfl;rfl;rfl;rfl;omega)|refine Fj ?_|refine eR ?_|(apply a8;rfl)|(intro _;try omega))
   refine Aj.normal ⟨j+1,by omega,by omega,⟨by omega,?_,?_⟩⟩
   ·rw[Num.parse_snoc' d j b,Int.natCast_add,eQ];exact Dh
   ·exact DT
  ·have m:j=d.length:=by omega
   subst m
   repeat' (first|refine Fj ?_|(apply cn;rfl)|(apply a8;rfl)|(intro _;try omega))
   ·refine aa ?_
    rw[cd,h,a8c]
 ·rw[if_neg a,decide_eq_false a]
  repeat' (first|refine a6 (cut_spec' n) ?_|(apply j8;rfl;rfl)|refine go1 ?_|refine a7 ?_|(apply a8;rfl)|(intro _;try omega))
  ·refine aa ?_
   rfl
end
section
open Go Go.Am Go.Vm
attribute [local irreducible] Aa Ah Ai Ad AL Ak Bf BK Bj Aj Vm.Done Bv AP
theorem toL_short(h:x<10^K)(b:K<900000):(Num.toL x).length<200000:=by
 have a:x<Num.B9^(K / 9+1):=by
  refine ag h ?_;rw[show Num.B9^(K / 9+1)=10^(9*(K / 9+1)) by rw[ep]];exact aD (by decide) (by omega)
 have:=Num.toL_len_le x (K / 9+1) a;omega
theorem c1x(e i:Nat):e &&& 2^i=if e / 2^i%2=1 then 2^i else 0:=by
 apply iA;grind
theorem dN(n e:Nat)(N:e≤6000)(f:e*Lib.nDigits n≤24000)(M:Lib.nDigits n<100000):Ak env 196 [.str (bs (Lib.decDigits n)),.int .i64 (e:Int)] (.DK [st (Lib.decDigits (n^e)),.p (.int .i64 0)]):=by
 refine Ak.enter (Af (by decide)) Tryz.func196 rfl (by kernel_rfl) (by simp[Tryz.ntmps196]) ?_;have g:=Lib.lt_pow_nDigits n;have F:=toL_short g (by omega);obtain⟨K,A⟩:∃K:Nat,K=24000:=⟨_,rfl⟩
 rw[← A] at f;have d:∀k,k≤e→(Num.toL (n^k)).length<200000:=fun k G=>by
  refine toL_short (K:=K) ?_ (by omega);have r:n^k≤(10^Lib.nDigits n)^k:=Nat.pow_le_pow_left (js g) k;rw[← ep] at r;rcases bq k with h0|h0
  ·rw[h0,fb];exact Nat.one_lt_pow (by omega) (by decide)
  ·have j:n^k<(10^Lib.nDigits n)^k:=gt g (by omega)
   rw[← ep] at j;refine ag j (aD (by decide) ?_);have:=ck (Lib.nDigits n) G;rw[ef (Lib.nDigits n) e] at this;omega
 have l:=xQ (Num.toL n) (Num.NR n) (by omega);rw[Num.lF] at l;have q:=Lib.decDigits_length n;have y:(e:Int)*((Lib.decDigits n).length:Int)≤24000:=by rw[A] at f;rw[q];exact_mod_cast f
 have J:(0:Int)≤(e:Int)*((Lib.decDigits n).length:Int):=by rw[q,← eQ];omega
 repeat' (first|(apply Aa.fn;rfl;rfl;exact Vx n (by omega);intro _;rfl)|refine a6 l ?_|(apply j8;rfl;rfl)|refine Fh ?_|refine a7 ?_|refine bi ?_|(apply a8;rfl)|(intro _;try omega))
 refine cb (b6 8 rfl rfl) ?_;have one:Num.toL 1=[1]:=by rw[Num.toL_pos (by decide),show 1 / Num.B9=0 by decide,Num.toL_zero];rfl
 have x:e / 2^14=0:=fN (by omega);refine eD (fun b:Nat=>[(1,.p (.int .i64 (e:Int))),(6,lst 104 (Num.toL n)),(7,.p (.bool false)),(8,lst 104 (Num.toL (n^(e / 2^b)))),(9,.p (.int .i64 ((2^b / 2:Nat):Int)))]) (fun _=>[]) 1 (fun b=>b≤14) (fun b=>b) 14 (by omega) (by omega) ⟨ab _,?_,?_⟩ ?_
 ·rw[x,fb,one];exact Dh
 ·exact BN.nil
 intro b O;rcases bq b with hb0|hb0
 ·subst hb0
  have z:=d e (ab _);have B:=YO (n^e) (by omega);rw[fb,Nat.div_one]
  repeat' (first|refine a6 B ?_|refine Fh ?_|refine a7 ?_|(apply cn;rfl))
  ·(refine aa ?_;try rfl)
 ·obtain⟨i,rfl⟩:∃i,b=i+1:=⟨b-1,by omega⟩
  have u:2^(i+1) / 2=2^i:=by rw[ci,Nat.mul_div_cancel _ (by decide)]
  have C:0<2^i:=dC (by decide);have I:2^i≤2^13:=aD (by decide) (by omega);rw[u];have o:e / 2^(i+1)≤e:=Nat.div_le_self _ _;have r:=U8 (Num.toL (n^(e / 2^(i+1)))) (Num.toL (n^(e / 2^(i+1)))) (Num.NR _) (Num.NR _) (by have:=d _ o;omega) (by have:=d _ o;omega);rw[Num.Xi] at r;have m:e / 2^(i+1)+e / 2^(i+1)≤e:=by
   have j:e / 2^(i+1)*2^(i+1)≤e:=Nat.div_mul_le_self _ _;have P:e / 2^(i+1)*2≤e / 2^(i+1)*2^(i+1):=ck _ (by rw[ci];omega);omega
  have j:=U8 (Num.toL (n^(e / 2^(i+1))*n^(e / 2^(i+1)))) (Num.toL n) (Num.NR _) (Num.NR _) (by rw[← cM];have:=d _ m;omega) (by omega);rw[Num.Xi,Num.Xi] at j;have a:=Num.c2c n e i;have c:=c1x e i;by_cases h:e / 2^i%2=1
  ·rw[if_pos h] at a c
   repeat' (first|refine a6 r ?_|refine a6 j ?_|refine KP ?_|refine a7 ?_|(apply ld;rfl;rfl;(simp only[IntKind.bits];omega))|(apply a8;rfl)|(apply c8;rfl)|(intro _;try omega))
   all_goals try(exfalso;rename_i s;rw[c] at s;omega)
   refine Aj.normal ⟨i,by omega,by omega,⟨by omega,?_,?_⟩⟩
   ·rw[← a];exact Dh
   ·exact BN.nil
  ·rw[if_neg h,fy] at a
   rw[if_neg h] at c
   repeat' (first|refine a6 r ?_|refine KP ?_|refine a7 ?_|(apply ld;rfl;rfl;(simp only[IntKind.bits];omega))|(apply a8;rfl)|(apply c8;rfl)|(intro _;try omega))
   all_goals try(exfalso;rename_i s;rw[c] at s;omega)
   refine Aj.normal ⟨i,by omega,by omega,⟨by omega,?_,?_⟩⟩
   ·rw[← a];exact Dh
   ·exact BN.nil
theorem xg(a b:Nat)(u:Lib.nDigits a<400000)(s:Lib.nDigits b<400000):Ak env 197 [.str (bs (Lib.decDigits a)),.str (bs (Lib.decDigits b))] (st (Lib.decDigits (a*b))):=by
 refine Ak.enter (Af (by decide)) Tryz.func197 rfl (by kernel_rfl) (by simp[Tryz.ntmps197]) ?_;have f:=Qo a 9 (by decide);have e:=Qo b 9 (by decide);have h:=Lib.lt_pow_nDigits a;have g:=Lib.lt_pow_nDigits b;have o:=toL_short h (by omega);have m:=toL_short g (by omega);have i:=U8 (Num.toL a) (Num.toL b) (Num.NR _) (Num.NR _) (by omega) (by omega);rw[Num.Xi,Num.Xi] at i;have j:(Num.toL (a*b)).length<200000:=toL_short (K:=Lib.nDigits a+Lib.nDigits b) (by
  rw[cM];exact gC h (js g) (dC (by decide))) (by omega)
 have k:=YO (a*b) (by omega);by_cases d:Lib.nDigits a≤9∧Lib.nDigits b≤9
 ·rw[if_pos d.1,decide_eq_true d.1] at f
  rw[if_pos d.2,decide_eq_true d.2] at e;have r:a<1000000000:=ag h (aD (n:=10) (by decide) d.1);have p:b<1000000000:=ag g (aD (n:=10) (by decide) d.2);have q:a*b≤999999999*999999999:=di (by omega) (by omega);have c:(a:Int)*(b:Int)=((a*b:Nat):Int):=(eQ a b).symm;have l:=aI ((a:Int)*(b:Int)) (by rw[c];omega);have x:-9223372036854775808≤(a:Int)*(b:Int)∧(a:Int)*(b:Int)<9223372036854775808:=by rw[c];omega
  repeat' (first|refine a6 f ?_|refine a6 e ?_|refine a6 l ?_|refine Fh ?_|(apply ei;rfl))
  ·refine aa ?_
   rw[c,uY]
 ·repeat' (first|refine a6 f ?_|refine a6 e ?_|(apply Aa.fn;rfl;rfl;exact Vx a (by omega);intro _;rfl)|(apply Aa.fn;rfl;rfl;exact Vx b (by omega);intro _;rfl)|refine a6 i ?_|refine a6 k ?_|refine go1 ?_|(apply oR;rfl;rfl;rfl)|(apply a8;rfl)|(intro _;try omega))
  all_goals(refine aa ?_;try rfl)
theorem ni(n:Nat):Ak env 212 [.str (bs (Lib.decDigits n))] (.p (.int .i64 (if n=0 then 0 else 1))):=by
 refine Ak.enter (Af (by decide)) Tryz.func212 rfl (by kernel_rfl) (by simp[Tryz.ntmps212]) ?_;have c:=zK n;have b:=a5n n;have a:=fG n
 repeat' (first|(apply b4w;rfl;rfl;rfl;exact le_dec rfl)|(apply yB;rfl;rfl;rfl;exact le_dec rfl)|(apply j8;rfl;rfl)|refine Fj ?_|(apply AP.ret;rfl)|(apply Ah.guard;rfl;rfl)|(apply kq;rfl;rfl)|(apply pL;rfl;rfl;rfl;omega)|(apply b5;rfl)|(apply c8;rfl)|(intro _;try omega))
 all_goals first
  |(exfalso;simp_all;done)
  |(exfalso;simp_all;omega)
  |((refine aa ?_;try rfl);refine hZ ?_;first|(rw[if_pos (a.1 (by assumption))];done)|(rw[if_neg (fun e=>by have:=a.2 e;contradiction)];done))
theorem dO:∀(a b:List UInt8),-1≤Lib.compareBytes a b∧Lib.compareBytes a b≤1
 |[],[]=>by simp[Lib.compareBytes]
 |[],_::_=>by simp[Lib.compareBytes]
 |_::_,[]=>by simp[Lib.compareBytes]
 |a::as',b::bs'=>by
  simp only[Lib.compareBytes];have:=dO as' bs';omega
def kE(a b:Nat):Int:=if a<b then -1 else if b<a then 1 else 0
theorem c0x(h:Lib.nDigits a=Lib.nDigits b):Lib.compareBytes (Lib.decDigits a) (Lib.decDigits b)=kE a b:=by
 rw[Num.EZ,Num.EZ,← h];exact Num.c5l _ _ _ (Lib.lt_pow_nDigits a) (by rw[h];exact Lib.lt_pow_nDigits b)
theorem pG(a b:Nat)(o:Lib.nDigits a<400000)(n:Lib.nDigits b<400000):Ak env 198 [.str (bs (Lib.decDigits a)),.str (bs (Lib.decDigits b))] (.p (.int .i64 (kE a b))):=by
 refine Ak.enter (Af (by decide)) Tryz.func198 rfl (by kernel_rfl) (by simp[Tryz.ntmps198]) ?_;have f:=ni a;have e:=ni b;have j:=Lib.decDigits_length a;have i:=Lib.decDigits_length b;have l:=dO (Lib.decDigits a) (Lib.decDigits b);have m:Lib.nDigits 0=1:=Lib.nDigits_small (by decide);by_cases d:a=0<;>by_cases c:b=0
 ·rw[if_pos d] at f
  rw[if_pos c] at e;have k:Lib.nDigits a=Lib.nDigits b:=by rw[d,c]
  repeat' (first|refine a6 f ?_|refine a6 e ?_|refine a6 (cut_spec' a) ?_|refine a6 (cut_spec' b) ?_|(apply Aa.fn;rfl;rfl;exact Y2 _ _;intro _;rfl)|(apply j8;rfl;rfl)|refine Fh ?_|refine a7 ?_|(apply b5;rfl)|(apply c8;rfl)|(intro _;try omega))
  all_goals first
   |omega
   |((refine aa ?_;try rfl);refine hZ ?_;simp[kE,d,c];done)
 ·rw[if_pos d] at f
  rw[if_neg c] at e
  repeat' (first|refine a6 f ?_|refine a6 e ?_|refine go1 ?_|refine a7 ?_|(apply b8;rfl))
  all_goals first
   |omega
   |((refine aa ?_;try rfl);refine hZ ?_;unfold kE;rw[if_pos (by omega)];done)
 ·rw[if_neg d] at f
  rw[if_pos c] at e
  repeat' (first|refine a6 f ?_|refine a6 e ?_|refine go1 ?_|refine a7 ?_|(apply b8;rfl)|(apply b5;rfl))
  all_goals first
   |omega
   |((refine aa ?_;try rfl);refine hZ ?_;unfold kE;rw[if_neg (by omega),if_pos (by omega)];done)
 ·rw[if_neg d] at f
  rw[if_neg c] at e;have h:Lib.nDigits a<Lib.nDigits b→a<b:=Num.Qs;have g:Lib.nDigits b<Lib.nDigits a→b<a:=Num.Qs
  repeat' (first|refine a6 f ?_|refine a6 e ?_|refine a6 (cut_spec' a) ?_|refine a6 (cut_spec' b) ?_|(apply Aa.fn;rfl;rfl;exact Y2 _ _;intro _;rfl)|(apply j8;rfl;rfl)|refine Fh ?_|refine a7 ?_|(apply Aa.neg;rfl;omega)|(apply b5;rfl)|(apply c8;rfl)|(intro _;try omega))
  ·(refine aa ?_;try rfl)
   refine hZ ?_;have:=h (by omega);unfold kE;rw[if_pos this]
  ·(refine aa ?_;try rfl)
   refine hZ ?_;have:=g (by omega);unfold kE;rw[if_neg (by omega),if_pos this]
  ·(refine aa ?_;try rfl)
   refine hZ ?_;rw[Int.one_mul,c0x (by omega)]
end
end Go.Proofs.YthlffjlbidibdaaGreatDoor
namespace Go.Vm
open Go.Am
theorem V5(a:n<0)(h:-18446744073709551616≤n):IntKind.u64.wrap n=n+18446744073709551616:=by
 have e:IntKind.u64.wrap n=n%2^64:=by
  rfl
 omega
section
variable {E:Env}{L:Frame}{H:Heap}{nx:Nat}{Q:PV→Heap→Nat→Prop}{w:Bool}
variable {dst:Option Tmp}{ty:TypeId}{pos:String}{af:Array Edge}{gd:Option (Nat×Bool)}
theorem rz(e:AY E.Γ L x=some (.p (.int k' n)))(f:E.P.underlying s=some b)(a:zi b=true)(g:E.P.underlying d=some (.int .u64))(c:n<0∧-18446744073709551616≤n)(q:Q (.p (.int .u64 (n+18446744073709551616))) H nx) :
 Aa E w ⟨dst,.convert s d x,ty,pos,af,gd⟩ L H nx Q:=nk e f a g (by rw[V5 c.1 c.2];exact q)
theorem qu(b:AY E.Γ L x=some (.p (.int .u64 a)))(h:0<a∧a<18446744073709551616)(q:Q (.p (.int .u64 (18446744073709551616-a))) H nx):Aa E w ⟨dst,.unOp .neg t x,ty,pos,af,gd⟩ L H nx Q :=
 Aa.quiet q fun m F σ f e d=>by
  refine⟨.int .u64 (18446744073709551616-a),fun _=>?_,.p (.int _ _)⟩;have c:DL E.P (Op.unary .neg (.int .u64 a))=some (.int .u64 (18446744073709551616-a)):=by
   simp only[Op.unary,Op.intArith,Int.zero_sub,V5 (n:=-a) (by omega) (by omega)];rw[show -a+18446744073709551616=18446744073709551616-a by omega];rfl
  simp only[BX,F5,CV e d b];rw[show plain (Value.int IntKind.u64 a)=true from rfl];simp only[if_true,LQ c rfl,Option.map_some]
theorem Aa.makeFunc(h:evs E.Γ L a.toList=some c)(i:evs E.Γ L cs.toList=some d)(q:Q (.clo f c d) H nx):Aa E w ⟨dst,.makeFunc (.func f) a cs,ty,pos,af,gd⟩ L H nx Q :=
 Aa.quiet q fun m F σ b g e=>by
  refine⟨.func (.func f) (a.toList.map (ev b)).toArray (cs.toList.map (ev b)).toArray,fun _=>?_,.clo (TN g e h) (TN g e i)⟩;simp only[BX,F5,Option.map_some,← Array.toList_map,Array.toArray_toList]
end
end Go.Vm
namespace Go.Proofs.YthlffjlbidibdaaGreatDoor
open Go Go.Am Go.Vm
attribute [local irreducible] Aa Ah Ai Ad AL Ak Bf BK Bj Aj Vm.Done Bv AP
structure Lm where
 num:Int
 den:Int
instance:Enc Lm:={ default:=⟨0,0⟩,enc:=fun x=>[.int .i64 x.num,.int .i64 x.den],size:=2,len:=fun _=>rfl }
theorem jy(n:Int)(h:-9223372036854775808≤n∧n<9223372036854775808):Ak env 200 [.int .i64 n] (.p (.int .u64 ((n.natAbs:Nat):Int))):=by
 refine Ak.enter (Af (by decide)) Tryz.func200 rfl (by kernel_rfl) (by simp) ?_
 repeat' (first|refine go1 ?_|(apply rz;rfl;rfl;rfl;rfl;omega)|(apply qu;rfl;omega)|refine a7 ?_|(apply mf;rfl;rfl;rfl;rfl;omega)|(apply a8;rfl)|(intro _))
 all_goals(refine aa ?_;grind)
theorem b5z(a b:Nat)(i:a<18446744073709551616)(g:b<18446744073709551616):Ak env 199 [.int .u64 (a:Int),.int .u64 (b:Int)] (.p (.int .u64 ((Nat.gcd a b:Nat):Int))):=by
 refine Ak.enter (Af (by decide)) Tryz.func199 rfl (by kernel_rfl) (by simp) ?_
 repeat' (first|refine go1 ?_|fail)
 refine eD (fun s:Nat×Nat=>[(0,.p (.int .u64 (s.1:Int))),(1,.p (.int .u64 (s.2:Int)))]) (fun _=>[]) 0 (fun s=>s.1<18446744073709551616∧s.2<18446744073709551616∧Nat.gcd s.1 s.2=Nat.gcd a b) (fun s=>s.2) (a,b) (ab _) ⟨i,g,rfl⟩ ⟨ab _,?_,trivial⟩ ?_
 ·exact Dh
 rintro⟨x,y⟩ ⟨k,e,f⟩;have c:0<y→x%y<y:=fun h=>be _ h
 repeat' (first|refine Fj ?_|apply j6|(apply a8;rfl)|(intro _))
 ·rename_i j
  have d:0<y:=by omega
  refine Aj.normal ⟨(y,x%y),⟨e,by omega,?_⟩,c d,⟨ab _,?_,trivial⟩⟩
  ·rw[← f,Nat.gcd_comm x y,Nat.gcd_rec y x,Nat.gcd_comm]
  ·exact Dh
 ·rename_i j
  refine aa ?_;simp_all
def fOk(x:Lm):Prop:=0<x.den∧x.den≤1000000∧-1000000≤x.num∧x.num≤1000000∧Nat.gcd x.num.natAbs x.den.toNat=1
instance (x:Lm):Decidable (fOk x):=by unfold fOk;infer_instance
def c3d(x:Lm):Int:=if fOk x then 0 else 2
theorem zM(x:Lm):Ak env 177 [.agg (Enc.enc x)] (.p (.int .i64 (c3d x))):=by
 refine Ak.enter (Af (by decide)) Tryz.func177 rfl (by kernel_rfl) (by simp[Tryz.ntmps177]) ?_;have b:0<x.den→((x.den.toNat:Nat):Int)=x.den:=fun h=>cE (Int.le_of_lt h)
 have a:0<x.den→x.den≤1000000→-1000000≤x.num→x.num≤1000000→Ak env 199 [.int .u64 ((x.num.natAbs:Nat):Int),.int .u64 x.den] (.p (.int .u64 ((Nat.gcd x.num.natAbs x.den.toNat:Nat):Int))):=fun c f e d=>by
  have:=b5z x.num.natAbs x.den.toNat (by omega) (by omega)
  rwa[b c] at this
 repeat' (first|(apply Aa.fn;rfl;rfl;exact jy _ (by omega);intro _;rfl)|(apply Aa.fn;rfl;rfl;exact a (by omega) (by omega) (by omega) (by omega);intro _;rfl)|refine KP ?_|(apply Ai.guard;rfl;rfl)|refine a7 ?_|(apply mf;rfl;rfl;rfl;rfl;omega)|(apply ei;rfl)|(apply a8;rfl)|(intro _;try omega))
 all_goals(refine aa ?_;refine hZ ?_;unfold c3d;first|(rw[if_neg (show¬ fOk x from fun h=>by unfold fOk at h;omega)];done)|(rw[if_pos (show fOk x from by unfold fOk;omega)];done))
def pOk(x:Lm):Prop:=fOk x∧0<x.num∧x.num≤128*x.den∧x.den≤128
instance (x:Lm):Decidable (pOk x):=by unfold pOk;infer_instance
def QO(x:Lm):Int:=if¬ fOk x then 2 else if x.num≤0∨x.num>128*x.den then 3 else if x.den>128 then 4 else 0
theorem TS:QO x=0↔pOk x:=by
 unfold QO pOk;grind
theorem Nz(x:Lm):Ak env 142 [.agg (Enc.enc x)] (.p (.int .i64 (QO x))):=by
 have b:=zM x;refine Ak.enter (Af (by decide)) Tryz.func142 rfl (by kernel_rfl) (by simp[Tryz.ntmps142]) ?_;by_cases a:fOk x
 ·rw[show c3d x=0 from if_pos a] at b
  have c:=a;obtain⟨h,g,f,d,-⟩:=c;have e:QO x=if x.num≤0∨x.num>128*x.den then 3 else if x.den>128 then 4 else 0:=by unfold QO;rw[if_neg (bR.2 a)]
  rw[e]
  repeat' (first|refine a6 b ?_|refine Fh ?_|(apply Ah.guard;rfl;rfl)|refine a7 ?_|(apply b8;rfl)|(apply b5;rfl)|(apply c8;rfl)|(intro _;try omega))
  all_goals first|omega|(rw[if_pos (by omega)];(refine aa ?_;try rfl);done)|(rw[if_neg (by omega),if_pos (by omega)];(refine aa ?_;try rfl);done)|(rw[if_neg (by omega),if_neg (by omega)];(refine aa ?_;try rfl);done)
 ·rw[show c3d x=2 from if_neg a] at b
  rw[show QO x=2 from if_pos a]
  repeat' (first|refine a6 b ?_|refine go1 ?_|refine a7 ?_|(apply b8;rfl))
  all_goals(refine aa ?_;try rfl)
def bothR(x y:Lm):Int:=if QO x≠0 then QO x else QO y
theorem a1b(x y:Lm):Ak env 175 [.agg (Enc.enc x),.agg (Enc.enc y)] (.p (.int .i64 (bothR x y))):=by
 have b:=Nz x;have a:=Nz y;unfold bothR;refine Ak.enter (Af (by decide)) Tryz.func175 rfl (by kernel_rfl) (by simp) ?_
 repeat' (first|refine a6 b ?_|refine a6 a ?_|refine go1 ?_|refine a7 ?_|(apply a8;rfl)|(intro _))
 all_goals first|(rw[if_pos (by assumption)];(refine aa ?_;try rfl))|(rw[if_neg (by omega)];(refine aa ?_;try rfl);done)
def sh1(den:Nat):Nat→Nat→Int→Nat×Int
 |0,num,n=>(num,n)
 |f+1,num,n=>if num<den then sh1 den f (num*2) (n-12) else(num,n)
def sh2(num:Nat):Nat→Nat→Int→Nat×Int
 |0,den,n=>(den,n)
 |f+1,den,n=>if 2*den≤num then sh2 num f (den*2) (n+12) else(den,n)
def sh3(p:Nat):Nat→Nat→Int→Int
 |0,l,n=>n
 |f+1,l,n=>if l<p then sh3 p f (l*4) (n+1) else n
def shN(num den:Nat):Int :=
 let a:=sh1 den 30 num 0
 let b:=sh2 a.1 30 den a.2
 sh3 (a.1^24) 30 (b.1^24*2) b.2
def shz(x y:Lm):Int:=shN (y.num*x.den).toNat (y.den*x.num).toNat
theorem b9q(a b:Nat):kE a b>0↔b<a:=by
 unfold kE;omega
theorem a5o(d:0<k)(h:n<10^k):Lib.nDigits n≤k:=by
 rcases bq n with h0|h0
 ·subst h0;rw[Lib.nDigits_small (by decide)];omega
 ·have c:=Num.Hl n (by omega)
  have b:10^(Lib.nDigits n-1)<10^k:=cK c h;have e:=(fh (a:=10) (by decide)).1 b;omega
theorem a2i(c:0<k)(h:n<10^k)(b:e≤100):Lib.nDigits (n^e)≤k*100:=by
 rcases bq e with h0|h0
 ·subst h0;rw[fb,Lib.nDigits_small (by decide)];omega
 ·refine a5o (by omega) ?_
  have a:n^e<(10^k)^e:=gt h (by omega);rw[← ep] at a;exact ag a (aD (by decide) (ck _ b))
theorem b9e(d:Lib.nDigits a≤j)(c:Lib.nDigits b≤k):Lib.nDigits (a*b)≤j+k:=by
 have h:=Lib.lt_pow_nDigits a;have g:=Lib.lt_pow_nDigits b;have i:=Lib.nDigits_pos a;refine a5o (by omega) ?_;rw[cM];have f:a<10^j:=ag h (aD (by decide) d);have e:b<10^k:=ag g (aD (by decide) c);exact gC f (js e) (dC (by decide))
theorem a3h(x y:Lm)(hx:pOk x)(hy:pOk y):Ak env 176 [.agg (Enc.enc x),.agg (Enc.enc y)] (.p (.int .i64 (shz x y))):=by
 obtain⟨⟨f1,-⟩,f2,f3,f4⟩:=hx;obtain⟨⟨g1,-⟩,g2,g3,g4⟩:=hy;obtain⟨B,O⟩:∃k:Nat,x.num=k:=⟨x.num.toNat,by omega⟩
 obtain⟨C,P⟩:∃k:Nat,x.den=k:=⟨x.den.toNat,by omega⟩
 obtain⟨z,M⟩:∃k:Nat,y.num=k:=⟨y.num.toNat,by omega⟩
 obtain⟨A,N⟩:∃k:Nat,y.den=k:=⟨y.den.toNat,by omega⟩
 have b1:z*C≤16384*128:=di (by omega) (by omega);have b2:A*B≤128*16384:=di (by omega) (by omega);have p1:0<z*C:=dy (by omega) (by omega);have p2:0<A*B:=dy (by omega) (by omega);have c1:y.num*x.den=((z*C:Nat):Int):=by rw[M,P,eQ]
 have c2:y.den*x.num=((A*B:Nat):Int):=by rw[N,O,eQ]
 have e:shz x y=shN (z*C) (A*B):=by unfold shz;rw[c1,c2];rfl
 rw[e];generalize z*C=num at *;generalize A*B=den at *;have z1:-9223372036854775808≤y.num*x.den∧y.num*x.den<9223372036854775808:=by omega
 have z2:-9223372036854775808≤y.den*x.num∧y.den*x.num<9223372036854775808:=by omega
 refine Ak.enter (Af (by decide)) Tryz.func176 rfl (by kernel_rfl) (by simp[Tryz.ntmps176]) ?_
 repeat' (first|refine KP ?_|fail)
 refine eD (fun s:Nat×Nat=>[(5,.p (.int .i64 (s.2:Int))),(6,.p (.int .i64 (den:Int))),(7,.p (.int .i64 (-(12*(s.1:Int)))))]) (fun _=>[]) 0 (fun s=>s.1≤22∧s.2=num*2^s.1∧s.2≤4194304∧sh1 den (30-s.1) s.2 (-(12*(s.1:Int)))=sh1 den 30 num 0) (fun s=>30-s.1) (0,num) (by omega) ⟨by omega,by simp,by simp only;omega,by simp⟩ ⟨by omega,?_,?_⟩ ?_
 ·simp only[c1,c2];exact Dh
 ·exact BN.nil
 rintro⟨i,m⟩ ⟨hi,J,U,o⟩;simp only at hi J U o;have I:∀a b c:Nat,0<a→a*2^b≤c→2^b≤c:=fun a b c ha h=>an (Nat.le_mul_of_pos_left _ ha) h
 have X:∀b:Nat,2^b≤2^21→b≤21:=fun b h=>(Nat.pow_le_pow_iff_right (by decide)).1 h
 have d8b:0<m:=by rw[J];exact dy p1 (dC (by decide))
 repeat' (first|refine Fj ?_|(apply a8;rfl)|(intro _;try omega))
 ·rename_i Z
  simp only at Z;have hi2:i≤20:=by
   have u:num*2^i<den:=by rw[← J];omega
   have r:2^i<2^21:=cK (I _ _ _ p1 (ab _)) (by omega);have:=(fh (a:=2) (by decide)).1 r;omega
  have g:-(12*((i+1:Nat):Int))=-(12*(i:Int))-12:=by omega
  refine Aj.normal ⟨(i+1,m*2),⟨by simp only;omega,by simp only;rw[J,ci,dq],by simp only;omega,?_⟩,by simp only;omega,⟨by omega,?_,?_⟩⟩
  ·simp only
   rw[← o,show 30-i=(30-(i+1))+1 by omega,g]
   conv=>rhs;rw[sh1]
   rw[if_pos (by omega)]
  ·simp only[g];exact Dh
  ·exact BN.nil
 ·rename_i Z
  simp only at Z;have T:sh1 den 30 num 0=(m,-(12*(i:Int))):=by
   rw[← o];cases 30-i with
   |zero=>rfl
   |succ f=>rw[sh1,if_neg (by omega)]
  refine eD (fun s:Nat×Nat=>[(5,.p (.int .i64 (m:Int))),(6,.p (.int .i64 (s.2:Int))),(7,.p (.int .i64 (-(12*(i:Int))+12*(s.1:Int))))]) (fun _=>[]) 0 (fun s=>s.1≤22∧s.2=den*2^s.1∧s.2≤4194304∧sh2 m (30-s.1) s.2 (-(12*(i:Int))+12*(s.1:Int))=sh2 m 30 den (-(12*(i:Int)))) (fun s=>30-s.1) (0,den) (by omega) ⟨by omega,by simp,by simp only;omega,by simp⟩ ⟨by omega,?_,?_⟩ ?_
  ·have g:-(12*(i:Int))+12*((0:Nat):Int)=-(12*(i:Int)):=by omega
   simp only[g];exact Dh
  ·exact BN.nil
  rintro⟨j,d⟩ ⟨hj,K,V,R⟩;simp only at hj K V R;have Y:0<d:=by rw[K];exact dy p2 (dC (by decide))
  by_cases F:2*d≤m
  ·repeat' (first|refine Fj ?_|(apply a8;rfl)|(intro _;try omega))
   all_goals try omega
   have hj2:j≤21:=by
    have u:den*2^j≤2^21:=by rw[← K];omega
    exact X _ (I _ _ _ p2 u)
   have g:-(12*(i:Int))+12*((j+1:Nat):Int)=-(12*(i:Int))+12*(j:Int)+12:=by omega
   refine Aj.normal ⟨(j+1,d*2),⟨by simp only;omega,by simp only;rw[K,ci,dq],by simp only;omega,?_⟩,by simp only;omega,⟨by omega,?_,?_⟩⟩
   ·simp only
    rw[← R,show 30-j=(30-(j+1))+1 by omega,g]
    conv=>rhs;rw[sh2]
    rw[if_pos F]
   ·simp only[g];exact Dh
   ·exact BN.nil
  ·have S:sh2 m 30 den (-(12*(i:Int)))=(d,-(12*(i:Int))+12*(j:Int)):=by
    rw[← R];cases 30-j with
    |zero=>rfl
    |succ f=>rw[sh2,if_neg F]
   have hR:shN num den=sh3 (m^24) 30 (d^24*2) (-(12*(i:Int))+12*(j:Int)):=by
    unfold shN;rw[T];simp only;rw[S]
   rw[hR];have om:=aI (m:Int) (by omega);have od:=aI (d:Int) (by omega);rw[uY] at om od;have nm:Lib.nDigits m≤7:=a5o (by decide) (by omega);have nd:Lib.nDigits d≤7:=a5o (by decide) (by omega);have pm:=dN m 24 (by decide) (by omega) (by omega);have pd:=dN d 24 (by decide) (by omega) (by omega);have np:Lib.nDigits (m^24)≤700:=a2i (k:=7) (by decide) (by omega) (by decide);have nq:Lib.nDigits (d^24)≤700:=a2i (k:=7) (by decide) (by omega) (by decide);have n2:Lib.nDigits 2=1:=Lib.nDigits_small (by decide);have n4:Lib.nDigits 4=1:=Lib.nDigits_small (by decide);have q2:=xg (d^24) 2 (by omega) (by omega);rw[show Lib.decDigits 2=[50] by decide +kernel] at q2;have hpq:m^24<2^24*d^24:=by
    rw[← Nat.mul_pow];exact gt (by omega) (by decide)
   have d7t:0<d^24:=dC Y;generalize m^24=p at *;generalize d^24=q at *
   repeat' (first|refine a6 om ?_|refine a6 od ?_|refine a6 pm ?_|refine a6 pd ?_|refine a6 q2 ?_|refine Fh ?_|refine a7 ?_|(apply a8;rfl)|(intro _;try omega))
   all_goals try omega
   generalize hn0:-(12*(i:Int))+12*(j:Int)=n0 at *;have e0d:-1000≤n0∧n0≤1000:=by omega
   refine eD (fun k:Nat=>[(8,st (Lib.decDigits p)),(12,st (Lib.decDigits (q*2*4^k))),(7,.p (.int .i64 (n0+(k:Int))))]) (fun _=>[]) 0 (fun k=>k≤20∧sh3 p (30-k) (q*2*4^k) (n0+(k:Int))=sh3 p 30 (q*2) n0) (fun k=>30-k) 0 (by omega) ⟨by omega,by simp⟩ ⟨by omega,?_,?_⟩ ?_
   ·have g:n0+((0:Nat):Int)=n0:=by omega
    rw[g,fb,fy];exact Dh
   ·exact BN.nil
   rintro k ⟨hk,o⟩;have nl:Lib.nDigits (q*2*4^k)≤1000:=by
    have u:=b9e (a:=q) (b:=2) (j:=700) (k:=1) (by omega) (by omega);have r:Lib.nDigits (4^k)≤100:=a2i (n:=4) (k:=1) (by decide) (by decide) (by omega);have h3:=b9e u r;omega
   have cc:=pG p (q*2*4^k) (by omega) (by omega);have q4:=xg (q*2*4^k) 4 (by omega) (by omega);rw[show Lib.decDigits 4=[52] by decide +kernel] at q4;have G:=b9q p (q*2*4^k);by_cases l:q*2*4^k<p
   ·have hc:=G.2 l
    have hk2:k≤12:=by
     have u:q*(2*4^k)<q*2^24:=by rw[← dq,ef q (2^24)];omega
     have r:=Nat.lt_of_mul_lt_mul_left u;have h3:2*4^k=2^(1+2*k):=by rw[cM,ep,Nat.pow_one]
     rw[h3] at r;have:=(fh (a:=2) (by decide)).1 r;omega
    have g:n0+((k+1:Nat):Int)=n0+(k:Int)+1:=by omega
    repeat' (first|refine a6 cc ?_|refine a6 q4 ?_|refine go1 ?_|refine a7 ?_|(apply a8;rfl)|(intro _;try omega))
    all_goals try omega
    refine Aj.normal ⟨k+1,⟨by omega,?_⟩,by omega,⟨by omega,?_,?_⟩⟩
    ·rw[← o,show 30-k=(30-(k+1))+1 by omega,g]
     conv=>rhs;rw[sh3]
     rw[if_pos l,ci,dq (q*2)]
    ·rw[g,ci,← dq];exact Dh
    ·exact BN.nil
   ·have hc:¬ kE p (q*2*4^k)>0:=fun h=>l (G.1 h)
    have W:sh3 p 30 (q*2) n0=n0+(k:Int):=by
     rw[← o];cases 30-k with
     |zero=>rfl
     |succ f=>rw[sh3,if_neg l]
    rw[W]
    repeat' (first|refine a6 cc ?_|refine go1 ?_|refine a7 ?_|(apply a8;rfl)|(intro _;try omega))
    all_goals first|omega|(refine aa ?_;try rfl)
def AV(x y:Lm):Int×Int:=if bothR x y≠0 then(0,bothR x y) else(shz x y,0)
theorem b9h:bothR x y=0↔pOk x∧pOk y:=by
 unfold bothR;rw[← TS,← TS];omega
theorem NI(x y:Lm):Ak env 140 [.agg (Enc.enc x),.agg (Enc.enc y)] (.DK [.p (.int .i64 (AV x y).1),.p (.int .i64 (AV x y).2)]):=by
 have a:=a1b x y;by_cases h:bothR x y=0
 ·rw[h] at a
  have ok:=b9h.1 h;have b:=a3h x y ok.1 ok.2;rw[show AV x y=(shz x y,0) from if_neg (fun c=>c h)];refine Ak.enter (Af (by decide)) Tryz.func140 rfl (by kernel_rfl) (by simp) ?_
  repeat' (first|refine a6 a ?_|refine a6 b ?_|refine go1 ?_|refine a7 ?_|(apply cn;rfl))
  all_goals first|omega|(refine aa ?_;try rfl)
 ·rw[show AV x y=(0,bothR x y) from if_pos h]
  refine Ak.enter (Af (by decide)) Tryz.func140 rfl (by kernel_rfl) (by simp) ?_
  repeat' (first|refine a6 a ?_|refine go1 ?_|refine a7 ?_|(apply a8;rfl)|(intro _))
  all_goals first|omega|(refine aa ?_;try rfl)
structure GI where
 name:List UInt8
 JX:List UInt8
 CW:Lm
 first:Int
 Em:List Int
instance:Enc GI:={ default:=⟨[],[],⟨0,0⟩,0,[]⟩,enc:=fun r=>[.str (bs r.name),.str (bs r.JX),.int .i64 r.CW.num,.int .i64 r.CW.den,.int .i64 r.first,.lst 3 (cells r.Em) r.Em.length],size:=6,len:=fun _=>rfl }
theorem kx(h:a=b):PV.p (.bool a)=PV.p (.bool b) :=by grind
def jV(x:Int):Prop:=x<0∨x>1000000
instance (x:Int):Decidable (jV x):=by unfold jV;infer_instance
theorem c0l(x:Int):Ak env 179 [.int .i64 x] (.p (.bool (decide (jV x)))):=by
 refine Ak.enter (Af (by decide)) Tryz.func179 rfl (by kernel_rfl) (by simp) ?_
 repeat' (first|refine Fj ?_|(apply Ah.guard;rfl;rfl)|(intro _))
 all_goals(refine aa ?_;refine kx ?_;first|(refine decide_eq_decide.2 ⟨fun h=>by unfold jV;omega,fun h=>by unfold jV at h;omega⟩)|(symm;apply decide_eq_true;unfold jV;omega))
def okW(l:List Int):Prop:=∀i,i<l.length→¬ jV (gi l i)
noncomputable instance (l:List Int):Decidable (okW l):=Classical.propDecidable _
noncomputable def Bg(l:List Int):Int:=if okW l then 0 else 3
theorem c8k
 (g:AY env.Γ L e=some (.clo 178 a cs)) (i:evs env.Γ L args.toList=some xs) (b:Tryz.f178.body=some c) (f:(a++xs++cs).length≤Tryz.f178.ntmps)
 (h:Ad env nx c (CS 0 (a++xs++cs)) H nx (AP env.P Tryz.f178.results.toList Q)):Aa env true ⟨dst,.call { callee:=.value e,args:=args,argTypes:=j },ty,pos,af,gd⟩ L H nx Q:=by
 have d:(match Tryz.f178.body with|some c=>IV env.G Tryz.f178 c|none=>false)=true:=by kernel_rfl
 rw[b] at d;exact Aa.inline rfl g i (Af (by decide)) Tryz.func178 b d f h
theorem c6z
 (g:AY env.Γ L e=some (.clo 153 a cs)) (i:evs env.Γ L args.toList=some xs) (b:Tryz.f153.body=some c) (f:(a++xs++cs).length≤Tryz.f153.ntmps)
 (h:Ad env nx c (CS 0 (a++xs++cs)) H nx (AP env.P Tryz.f153.results.toList Q)):Aa env true ⟨dst,.call { callee:=.value e,args:=args,argTypes:=j },ty,pos,af,gd⟩ L H nx Q:=by
 have d:(match Tryz.f153.body with|some c=>IV env.G Tryz.f153 c|none=>false)=true:=by kernel_rfl
 rw[b] at d;exact Aa.inline rfl g i (Af (by decide)) Tryz.func153 b d f h
theorem fU(l:List Int)(f:l.length<9223372036854775808):Ak env 144 [.lst 3 (cells l) l.length] (.p (.int .i64 (Bg l))):=by
 refine Ak.enter (Af (by decide)) Tryz.func144 rfl (by kernel_rfl) (by simp[Tryz.ntmps144]) ?_
 repeat' (first|(apply c8k;rfl;rfl;rfl;exact le_dec rfl)|(apply c6z;rfl;rfl;rfl;exact le_dec rfl)|refine go1 ?_|fail)
 refine eD (fun k:Nat=>[(0,lst 3 l),(1,.clo 179 [] []),(7,.p (.int .i64 (l.length:Int))),(8,.p (.int .i64 (k:Int)))]) (fun _=>[]) 0 (fun k=>k≤l.length∧∀i,i<k→¬ jV (gi l i)) (fun k=>l.length-k) 0 (by omega) ⟨by omega,fun i c=>by omega⟩ ⟨by omega,?_,?_⟩ ?_
 ·exact Dh
 ·exact BN.nil
 rintro k ⟨g,a⟩;have e:=c0l (gi l k)
 repeat' (first|refine a6 e ?_|refine b9 ?_|refine go1 ?_|(apply AP.ret;rfl)|refine a7 ?_|(apply ei;rfl)|(apply cn;rfl)|(apply a8;rfl)|(apply c8;rfl)|(intro _;try omega))
 ·rename_i d b
  rw[show Bg l=3 from if_neg (fun h=>h k (by omega) b)]
  (refine aa ?_;try rfl)
 ·rename_i d b
  refine Aj.normal ⟨k+1,⟨by omega,fun i c=>?_⟩,by omega,⟨by omega,?_,?_⟩⟩
  ·rcases aq i k with h|h
   ·exact a i h
   ·obtain rfl:i=k:=by omega
    exact b
  ·exact Dh
  ·exact BN.nil
 ·rename_i d
  rw[show Bg l=0 from if_pos (fun i c=>a i (by omega))]
  (refine aa ?_;try rfl)
def uz(c:Nat):Prop:=(65≤c∧c≤90)∨(97≤c∧c≤122)
instance (c:Nat):Decidable (uz c):=by unfold uz;infer_instance
def nmC(c:Nat):Prop:=uz c∨(48≤c∧c≤57)∨c=95
theorem YS(c:Nat)(a:c<256):Ak env 141 [.int .u8 (c:Int)] (.p (.bool (decide (uz c)))):=by
 refine Ak.enter (Af (by decide)) Tryz.func141 rfl (by kernel_rfl) (by simp[Tryz.ntmps141]) ?_
 repeat' (first|refine Fj ?_|(apply Ah.guard;rfl;rfl)|(intro _;try omega))
 all_goals(refine aa ?_;refine kx ?_;first|(refine decide_eq_decide.2 ⟨fun h=>by unfold uz;omega,fun h=>by unfold uz at h;omega⟩)|(symm;apply decide_eq_true;unfold uz;omega)|(symm;apply decide_eq_false;unfold uz;omega))
def Dx(s:List UInt8):Prop:=0<s.length∧s.length≤32∧uz (gi s 0).toNat∧∀i,1≤i→i<s.length→nmC (gi s i).toNat
noncomputable instance (s:List UInt8):Decidable (Dx s):=Classical.propDecidable _
theorem Je(s:List UInt8)(z:s.length<9223372036854775808):Ak env 96 [.str (bs s)] (.p (.bool (decide (Dx s)))):=by
 have c:=YS (gi s 0).toNat (gi s 0).toNat_lt;by_cases x:s=[]
 ·subst x
  rw[decide_eq_false (show¬ Dx [] from fun h=>absurd h.1 (by decide))];refine Ak.enter (Af (by decide)) Tryz.func96 rfl (by kernel_rfl) (by simp[Tryz.ntmps96]) ?_
  repeat' (first|refine Fh ?_|(apply kq;rfl;rfl)|(apply ei;rfl))
  all_goals first|(refine aa ?_;try rfl)|contradiction
 ·have f:0<s.length:=dp.2 x
  refine Ak.enter (Af (by decide)) Tryz.func96 rfl (by kernel_rfl) (by simp[Tryz.ntmps96]) ?_;by_cases m:s.length≤32
  ·by_cases o:uz (gi s 0).toNat
   ·rw[decide_eq_true o] at c
    repeat' (first|refine a6 c ?_|(apply nu (i:=0);rfl;rfl;rfl;omega)|(apply j8;rfl;rfl)|refine Fh ?_|(apply Ah.guard;rfl;rfl)|refine a7 ?_|(apply kq;rfl;rfl)|(apply ei;rfl)|(apply cn;rfl)|(intro _;try omega))
    all_goals try omega
    all_goals try contradiction
    refine eD (fun k:Nat=>[(0,st s),(3,.p (.int .i64 (k:Int)))]) (fun _=>[]) 0 (fun k=>1≤k∧k≤s.length∧∀i,1≤i→i<k→nmC (gi s i).toNat) (fun k=>s.length-k) 1 (by omega) ⟨by omega,by omega,fun i e n=>by omega⟩ ⟨by omega,?_,?_⟩ ?_
    ·exact Dh
    ·exact BN.nil
    rintro k ⟨r,y,g⟩;have b:=YS (gi s k).toNat (gi s k).toNat_lt;have u:=(gi s k).toNat_lt;have a:nmC (gi s k).toNat→∀i,1≤i→i<k+1→nmC (gi s i).toNat:=fun h i e n=>by
     rcases aq i k with h3|h3
     ·exact g i e h3
     ·obtain rfl:i=k:=by omega
      exact h
    have l:k<s.length→¬ nmC (gi s k).toNat→decide (Dx s)=false:=fun e n=>decide_eq_false fun h=>n (h.2.2.2 k r e)
    by_cases q:k<s.length
    ·by_cases d:uz (gi s k).toNat
     ·rw[decide_eq_true d] at b
      repeat' (first|refine a6 b ?_|(apply j8;rfl;rfl)|(apply nu;rfl;rfl;rfl;omega)|refine Fh ?_|refine a7 ?_|(apply a8;rfl)|(apply b5;rfl)|(intro _;try omega))
      all_goals try omega
      refine Aj.normal ⟨k+1,⟨by omega,by omega,a (.inl d)⟩,by omega,⟨by omega,?_,?_⟩⟩
      ·exact Dh
      ·exact BN.nil
     ·rw[decide_eq_false d] at b
      have j:nmC (gi s k).toNat↔(48≤(gi s k).toNat∧(gi s k).toNat≤57)∨(gi s k).toNat=95:=⟨fun h=>h.resolve_left d,fun h=>.inr h⟩
      repeat' (first|refine a6 b ?_|(apply j8;rfl;rfl)|(apply nu;rfl;rfl;rfl;omega)|refine Fh ?_|(apply Ah.guard;rfl;rfl)|refine a7 ?_|(apply a8;rfl)|(apply b5;rfl)|(apply c8;rfl)|(intro _;try omega))
      all_goals try omega
      all_goals first
       |(rw[l q (fun h=>by have:=j.1 h;omega)];(refine aa ?_;try rfl);done)
       |(refine Aj.normal ⟨k+1,⟨by omega,by omega,a (j.2 (by omega))⟩,by omega,⟨by omega,?_,BN.nil⟩⟩;exact Dh)
    ·obtain rfl:k=s.length:=by omega
     rw[decide_eq_true (show Dx s from⟨f,m,o,fun i e n=>g i e n⟩)]
     repeat' (first|(apply j8;rfl;rfl)|refine Fj ?_|(apply a8;rfl)|(intro _;try omega))
     all_goals first|omega|(refine aa ?_;try rfl)
   ·rw[decide_eq_false (show¬ Dx s from fun h=>o h.2.2.1)]
    rw[decide_eq_false o] at c
    repeat' (first|refine a6 c ?_|(apply nu (i:=0);rfl;rfl;rfl;omega)|(apply j8;rfl;rfl)|refine Fh ?_|(apply Ah.guard;rfl;rfl)|refine a7 ?_|(apply kq;rfl;rfl)|(apply ei;rfl)|(intro _;try omega))
    all_goals first|omega|contradiction|(refine aa ?_;try rfl)
  ·rw[decide_eq_false (show¬ Dx s from fun h=>m h.2.1)]
   repeat' (first|(apply j8;rfl;rfl)|refine Fj ?_|(apply Ah.guard;rfl;rfl)|(apply kq;rfl;rfl)|(apply ei;rfl)|(intro _;try omega))
   all_goals first|omega|contradiction|(refine aa ?_;try rfl)
noncomputable def Cb(r:GI):Int:=if¬ Dx r.name∨¬ Dx r.JX then 8 else if QO r.CW≠0 then QO r.CW else if r.first< -256∨r.first>256 then 3 else if r.Em.length=0 then 13 else if r.Em.length>128 then 4 else Bg r.Em
def NM(n:Int):Prop:=-256≤n∧n≤256
instance (n:Int):Decidable (NM n):=by unfold NM;infer_instance
theorem VH(n:Int):Ak env 143 [.int .i64 n] (.p (.bool (decide (NM n)))):=by
 refine Ak.enter (Af (by decide)) Tryz.func143 rfl (by kernel_rfl) (by simp) ?_
 repeat' (first|refine Fj ?_|(apply Ah.guard;rfl;rfl)|(intro _))
 all_goals(refine aa ?_;refine kx ?_;first|(refine decide_eq_decide.2 ⟨fun h=>by unfold NM;omega,fun h=>by unfold NM at h;omega⟩)|(symm;apply decide_eq_false;unfold NM;omega))
theorem Jh(r:GI)(k:r.name.length<9223372036854775808)(j:r.JX.length<9223372036854775808)(i:r.Em.length<9223372036854775808):Ak env 97 [.agg (Enc.enc r)] (.p (.int .i64 (Cb r))):=by
 have a:=Je r.name k;have b:=Je r.JX j;have f:=Nz r.CW;have f1:=VH r.first;have g:=fU r.Em i;unfold Cb;refine Ak.enter (Af (by decide)) Tryz.func97 rfl (by kernel_rfl) (by simp[Tryz.ntmps97]) ?_;by_cases e:Dx r.name
 ·rw[decide_eq_true e] at a
  by_cases d:Dx r.JX
  ·rw[decide_eq_true d] at b
   rw[if_neg (fun h=>h.elim (fun h=>h e) (fun h=>h d))];by_cases c:NM r.first
   ·rw[decide_eq_true c] at f1
    unfold NM at c
    repeat' (first|refine a6 a ?_|refine a6 b ?_|refine a6 f ?_|refine a6 f1 ?_|refine a6 g ?_|refine Fh ?_|refine a7 ?_|(apply cn;rfl)|(apply a8;rfl)|(apply b5;rfl)|(apply c8;rfl)|(intro _;try omega))
    all_goals first
     |(rw[if_pos (by assumption)];(refine aa ?_;try rfl);done)
     |(rw[if_neg (by assumption),if_neg (by omega),if_pos (by omega)];(refine aa ?_;try rfl);done)
     |(rw[if_neg (by assumption),if_neg (by omega),if_neg (by omega),if_pos (by omega)];(refine aa ?_;try rfl);done)
     |(rw[if_neg (by assumption),if_neg (by omega),if_neg (by omega),if_neg (by omega)];(refine aa ?_;try rfl);done)
   ·rw[decide_eq_false c] at f1
    unfold NM at c
    repeat' (first|refine a6 a ?_|refine a6 b ?_|refine a6 f ?_|refine a6 f1 ?_|refine Fh ?_|refine a7 ?_|(apply cn;rfl)|(apply a8;rfl)|(apply b8;rfl)|(intro _;try omega))
    all_goals first
     |(rw[if_pos (by assumption)];(refine aa ?_;try rfl);done)
     |(rw[if_neg (by assumption),if_pos (by omega)];(refine aa ?_;try rfl);done)
  ·rw[decide_eq_false d] at b
   rw[if_pos (.inr d)]
   repeat' (first|refine a6 a ?_|refine a6 b ?_|refine Fh ?_|(apply ei;rfl))
   all_goals(refine aa ?_;try rfl)
 ·rw[decide_eq_false e] at a
  rw[if_pos (.inl e)]
  repeat' (first|refine a6 a ?_|refine Fh ?_|(apply ei;rfl))
  all_goals(refine aa ?_;try rfl)
end Go.Proofs.YthlffjlbidibdaaGreatDoor
namespace Go.Proofs.YthlffjlbidibdaaGreatDoor
open Go Go.Am Go.Vm
structure Drw where
 rank:Int
 shift:Int
instance:Enc Drw:={ default:=⟨0,0⟩,enc:=fun x=>[.int .i64 x.rank,.int .i64 x.shift],size:=2,len:=fun _=>rfl }
structure Seg where
 lo:Int
 hi:Int
 draws:List Drw
instance:Enc Seg:={ default:=⟨0,0,[]⟩,enc:=fun x=>[.int .i64 x.lo,.int .i64 x.hi,.lst 255 (cells x.draws) x.draws.length],size:=3,len:=fun _=>rfl }
structure Stp where
 name:List UInt8
 CW:Lm
 Jp:List Seg
instance:Enc Stp:={ default:=⟨[],⟨0,0⟩,[]⟩,enc:=fun x=>[.str (bs x.name),.int .i64 x.CW.num,.int .i64 x.CW.den,.lst 258 (cells x.Jp) x.Jp.length],size:=4,len:=fun _=>rfl }
structure tV where
 name:List UInt8
 FY:Bool
 lo:Int
 hi:Int
 stops:List Stp
instance:Enc tV:={ default:=⟨[],false,0,0,[]⟩,enc:=fun x=>[.str (bs x.name),.bool x.FY,.int .i64 x.lo,.int .i64 x.hi,.lst 200 (cells x.stops) x.stops.length],size:=5,len:=fun _=>rfl }
structure uD where
 name:List UInt8
 Yp:Int
 tgt:Int
 shift:Int
 through:Bool
instance:Enc uD:={ default:=⟨[],0,0,0,false⟩,enc:=fun x=>[.str (bs x.name),.int .i64 x.Yp,.int .i64 x.tgt,.int .i64 x.shift,.bool x.through],size:=5,len:=fun _=>rfl }
structure FZ where
 name:List UInt8
 ranks:List GI
 Ae:List tV
 IW:List uD
instance:Enc FZ:={ default:=⟨[],[],[],[]⟩,enc:=fun x=>[.str (bs x.name),.lst 188 (cells x.ranks) x.ranks.length,.lst 114 (cells x.Ae) x.Ae.length,.lst 207 (cells x.IW) x.IW.length],size:=4,len:=fun _=>rfl }
structure sU where
 lo:Int
 hi:Int
instance:Enc sU:={ default:=⟨0,0⟩,enc:=fun x=>[.int .i64 x.lo,.int .i64 x.hi],size:=2,len:=fun _=>rfl }
noncomputable instance (a b:Drw):Decidable (a=b):=Classical.propDecidable _
noncomputable instance (a:Drw) (l:List Drw):Decidable (a∈l):=Classical.propDecidable _
noncomputable instance (a:List UInt8) (l:List (List UInt8)):Decidable (a∈l):=Classical.propDecidable _
def XK(lo hi:Int):Int:=if lo<0∨hi>127 then 3 else if lo>hi then 23 else 0
noncomputable def UA(n:Nat)(l:List Drw)(k:Nat):Int :=
 if k<l.length then
  if(gi l k).rank<0∨(gi l k).rank≥n then 10 else if(gi l k).shift< -127∨(gi l k).shift>127 then 3 else if gi l k∈l.take k then 9 else UA n l (k+1)
 else 0
termination_by l.length-k
noncomputable def gB(n:Nat)(l:List Drw):Int:=if l.length>8 then 4 else UA n l 0
noncomputable def O5(n:Nat)(lo hi:Int)(l:List Seg)(k:Nat):Int :=
 if k<l.length then
  if min (gi l k).lo (gi l k).hi<lo∨max (gi l k).lo (gi l k).hi>hi then 23 else if(gi l k).lo>(gi l k).hi∨0<k∧(gi l k).lo≤(gi l (k-1)).hi then 6
  else if gB n (gi l k).draws≠0 then gB n (gi l k).draws else O5 n lo hi l (k+1)
 else 0
termination_by l.length-k
noncomputable def c0h(n:Nat)(lo hi:Int)(s:Stp):Int :=
 if¬ Dx s.name then 8 else if QO s.CW≠0 then QO s.CW else if s.Jp.length=0 then 13 else if s.Jp.length>12 then 4 else O5 n lo hi s.Jp 0
noncomputable def ji(l:List GI)(k:Nat):Int :=
 if k<l.length then if Cb (gi l k)≠0 then Cb (gi l k) else ji l (k+1) else 0
termination_by l.length-k
noncomputable def yV(l:List GI)(lo hi:Int):Int:=if l.length>60 then 4 else if ji l 0≠0 then ji l 0 else XK lo hi
noncomputable def D5(rk:List GI)(lo hi:Int)(s:Stp):Int:=if yV rk lo hi≠0 then yV rk lo hi else c0h rk.length lo hi s
noncomputable def QM(l:List GI)(k:Nat):Int :=
 if k<l.length then if Cb (gi l k)≠0 then Cb (gi l k) else if(gi l k).name∈(l.take k).map GI.name then 9 else QM l (k+1) else 0
termination_by l.length-k
noncomputable def Ux(rk:List GI)(lo hi:Int)(l:List Stp)(k:Nat):Int :=
 if k<l.length then if D5 rk lo hi (gi l k)≠0 then D5 rk lo hi (gi l k) else if(gi l k).name∈(l.take k).map Stp.name then 9 else Ux rk lo hi l (k+1) else 0
termination_by l.length-k
noncomputable def DU(rk:List GI)(d:tV):Int:=if XK d.lo d.hi≠0 then XK d.lo d.hi else if d.stops.length>60 then 4 else Ux rk d.lo d.hi d.stops 0
noncomputable def GK(rk:List GI)(l:List tV)(k:Nat):Int :=
 if k<l.length then if¬ Dx (gi l k).name then 8 else if(gi l k).name∈(l.take k).map tV.name then 9 else if DU rk (gi l k)≠0 then DU rk (gi l k) else GK rk l (k+1) else 0
termination_by l.length-k
noncomputable def UJ(n:Nat)(l:List uD)(k:Nat):Int :=
 if k<l.length then
  if¬ Dx (gi l k).name then 8 else if(gi l k).name∈(l.take k).map uD.name then 9
  else if(gi l k).Yp<0∨(gi l k).Yp≥n∨(gi l k).tgt<0∨(gi l k).tgt≥n then 10
  else if(gi l k).shift< -127∨(gi l k).shift>127 then 3 else if(gi l k).Yp=(gi l k).tgt∧(gi l k).shift=0 then 7 else UJ n l (k+1)
 else 0
termination_by l.length-k
noncomputable def Ug(l:List sU)(k:Nat):Int:=if k<l.length then if XK (gi l k).lo (gi l k).hi≠0 then 23 else Ug l (k+1) else 0
termination_by l.length-k
noncomputable def EF(ks:List sU)(l:List uD):Int:=if ks.length>8∨l.length>40 then 4 else if Ug ks 0≠0 then Ug ks 0 else UJ ks.length l 0
noncomputable def Ur(o:FZ):Int :=
 if¬ Dx o.name then 8 else if o.ranks.length>60 then 4 else if QM o.ranks 0≠0 then QM o.ranks 0 else if o.Ae.length=0 then 13 else if o.Ae.length>8 then 4
 else if GK o.ranks o.Ae 0≠0 then GK o.ranks o.Ae 0 else EF (o.Ae.map fun d=>⟨d.lo,d.hi⟩) o.IW
structure d0b(x:Seg):Prop where
 draws:x.draws.length<1000000
structure mV(x:Stp):Prop where
 name:x.name.length<1000000
 Jp:x.Jp.length<1000000
 all:∀i,i<x.Jp.length→d0b (gi x.Jp i)
structure c6f(x:tV):Prop where
 name:x.name.length<1000000
 stops:x.stops.length<1000000
 all:∀i,i<x.stops.length→mV (gi x.stops i)
structure dJ(r:GI):Prop where
 name:r.name.length<1000000
 JX:r.JX.length<1000000
 Em:r.Em.length<1000000
structure RD(o:FZ):Prop where
 name:o.name.length<1000000
 ranks:o.ranks.length<1000000
 Ae:o.Ae.length<1000000
 IW:o.IW.length<1000000
 rk:∀i,i<o.ranks.length→dJ (gi o.ranks i)
 dv:∀i,i<o.Ae.length→c6f (gi o.Ae i)
 cp:∀i,i<o.IW.length→(gi o.IW i).name.length<1000000
theorem dJ.len(h:dJ r):r.name.length<9223372036854775808∧r.JX.length<9223372036854775808∧r.Em.length<9223372036854775808:=⟨by have:=h.name;omega,by have:=h.JX;omega,by have:=h.Em;omega⟩
theorem nS(h:∀i,i<l.length→Cb (gi l i)=0):∀n k,l.length-k=n→ji l k=0
 |0,k,hk=>by rw[ji,if_neg (by omega)]
 |n+1,k,hk=>by
  rw[ji,if_pos (by omega),if_neg (fun a=>a (h k (by omega)))];exact nS h n (k+1) (by omega)
theorem TY(h:∀i,i<l.length→Cb (gi l i)=0∧(gi l i).name∉(l.take i).map GI.name):∀n k,l.length-k=n→QM l k=0
 |0,k,hk=>by rw[QM,if_neg (by omega)]
 |n+1,k,hk=>by
  obtain⟨b,a⟩:=h k (by omega);rw[QM,if_pos (by omega),if_neg (fun c=>c b),if_neg a];exact TY h n (k+1) (by omega)
theorem Qj(h:∀i,i<l.length→D5 a b c (gi l i)=0∧(gi l i).name∉(l.take i).map Stp.name):∀n k,l.length-k=n→Ux a b c l k=0
 |0,k,hk=>by rw[Ux,if_neg (by omega)]
 |n+1,k,hk=>by
  obtain⟨e,d⟩:=h k (by omega);rw[Ux,if_pos (by omega),if_neg (fun f=>f e),if_neg d];exact Qj h n (k+1) (by omega)
theorem PX(h:∀i,i<l.length→Dx (gi l i).name∧(gi l i).name∉(l.take i).map tV.name∧DU b (gi l i)=0):∀n k,l.length-k=n→GK b l k=0
 |0,k,hk=>by rw[GK,if_neg (by omega)]
 |n+1,k,hk=>by
  obtain⟨e,d,c⟩:=h k (by omega);rw[GK,if_pos (by omega),if_neg (fun a=>a e),if_neg d,if_neg (fun a=>a c)];exact PX h n (k+1) (by omega)
theorem Tt(h:∀i,i<l.length→XK (gi l i).lo (gi l i).hi=0):∀n k,l.length-k=n→Ug l k=0
 |0,k,hk=>by rw[Ug,if_neg (by omega)]
 |n+1,k,hk=>by
  rw[Ug,if_pos (by omega),if_neg (fun a=>a (h k (by omega)))];exact Tt h n (k+1) (by omega)
structure b5w(n:Nat)(c:uD):Prop where
 name:Dx c.name
 Yp:0≤c.Yp∧c.Yp<n
 tgt:0≤c.tgt∧c.tgt<n
 shift:-127≤c.shift∧c.shift≤127
 form:¬ (c.Yp=c.tgt∧c.shift=0)
theorem PU(h:∀i,i<l.length→b5w m (gi l i)∧(gi l i).name∉(l.take i).map uD.name):∀n k,l.length-k=n→UJ m l k=0
 |0,k,hk=>by rw[UJ,if_neg (by omega)]
 |n+1,k,hk=>by
  obtain⟨⟨c,g,f,e,b⟩,a⟩:=h k (by omega);rw[UJ,if_pos (by omega),if_neg (fun d=>d c),if_neg a,if_neg (by omega),if_neg (by omega),if_neg b];exact PU h n (k+1) (by omega)
structure YR(n:Nat)(d:Drw):Prop where
 rank:0≤d.rank∧d.rank<n
 shift:-127≤d.shift∧d.shift≤127
theorem U7(h:∀i,i<l.length→YR m (gi l i)∧gi l i∉l.take i):∀n k,l.length-k=n→UA m l k=0
 |0,k,hk=>by rw[UA,if_neg (by omega)]
 |n+1,k,hk=>by
  obtain⟨⟨c,b⟩,a⟩:=h k (by omega);rw[UA,if_pos (by omega),if_neg (by omega),if_neg (by omega),if_neg a];exact U7 h n (k+1) (by omega)
theorem JK(h:YR m d):gB m [d]=0:=by
 exact U7 (fun i a=>by
  obtain rfl:i=0:=by grind
  exact⟨h,by simp⟩) _ 0 rfl
theorem b8g(h:YR m d)(b:YR m e)(a:e≠d):gB m [d,e]=0:=by
 refine U7 (fun i c=>?_) _ 0 rfl;have:i=0∨i=1:=by grind
 rcases this with rfl|rfl
 ·exact⟨h,by simp⟩
 ·exact⟨b,by simpa[gi] using a⟩
theorem Tq(h:0≤a∧a≤b∧b≤127):XK a b=0:=by
 unfold XK;omega
theorem lq(h:∀i,i<l.length→Cb (gi l i)=0)(e:l.length≤60)(c:0≤a∧a≤b∧b≤127):yV l a b=0:=by
 unfold yV;rw[if_neg (by omega),if_neg (fun d=>d (nS h _ 0 rfl)),Tq c]
structure d0r(n:Nat)(lo hi:Int)(g:Seg):Prop where
 pl:lo≤g.lo∧g.lo≤g.hi∧g.hi≤hi
 draws:gB n g.draws=0
theorem VG(h:∀i,i<l.length→d0r m lo hi (gi l i)∧(0<i→(gi l (i-1)).hi<(gi l i).lo)):∀n k,l.length-k=n→O5 m lo hi l k=0
 |0,k,hk=>by rw[O5,if_neg (by omega)]
 |n+1,k,hk=>by
  obtain⟨⟨d,b⟩,c⟩:=h k (by omega);rw[O5,if_pos (by omega),if_neg (by omega),if_neg (fun a=>by
   omega),if_neg (fun a=>a b)]
  exact VG h n (k+1) (by omega)
theorem Md(b:lo≤s.lo∧s.lo≤s.hi∧s.hi≤hi)(a:gB n s.draws=0):O5 n lo hi [s] 0=0 :=
 VG (fun i hi=>by
  obtain rfl:i=0:=by grind
  exact⟨⟨b,a⟩,fun h=>by omega⟩) _ 0 rfl
theorem lU(a:lo≤s.lo∧s.lo≤s.hi∧s.hi<t.lo∧t.lo≤t.hi∧t.hi≤hi)(c:gB n s.draws=0)(b:gB n t.draws=0):O5 n lo hi [s,t] 0=0 :=
 VG (fun i hi=>by
  have:i=0∨i=1:=by grind
  rcases this with rfl|rfl
  ·exact⟨⟨⟨a.1,a.2.1,show s.hi≤_ by omega⟩,c⟩,fun h=>by omega⟩
  ·exact⟨⟨⟨show lo≤t.lo by omega,a.2.2.2⟩,b⟩,fun _=>a.2.2.1⟩) _ 0 rfl
def Pm(c:UInt8)(i:Int):List UInt8:=[c,UInt8.ofNat (48+i).toNat]
theorem c3r{i j:Nat}(b:i<10)(a:j<10)(h:Pm c i=Pm c j):i=j:=by
 simp only[Pm,List.cons.injEq,and_true,true_and] at h;have:=congrArg UInt8.toNat h;rw[UInt8.toNat_ofNat',UInt8.toNat_ofNat'] at this;omega
theorem a3p(a:uz c.toNat){i:Nat}(d:i<10):Dx (Pm c i):=by
 refine⟨by simp[Pm],by simp[Pm],a,fun j f b=>?_⟩;obtain rfl:j=1:=by simp[Pm] at b;omega
 have e:(gi (Pm c i) 1).toNat=48+i:=by
  show(UInt8.ofNat (48+(i:Int)).toNat).toNat=_;rw[UInt8.toNat_ofNat'];omega
 right;omega
theorem pV{α:Type}[Inhabited α]{f:α→List UInt8}{c:UInt8}{l:List α}(p:l.length≤10)(h:∀i,i<l.length→f (gi l i)=Pm c i){k:Nat}(g:k<l.length):f (gi l k)∉(l.take k).map f:=by
 intro b;rw[ba] at b;obtain⟨a,n,d⟩:=b;obtain⟨j,m,e⟩:=er n;rw[av] at m;have o:a=gi l j:=by
  rw[← e,List.getElem_take];simp[gi,List.getElem?_eq_getElem (show j<l.length by omega)]
 rw[o,h j (by omega),h k g] at d;have:=c3r (by omega) (by omega) d;omega
attribute [local irreducible] Aa Ah Ai Ad AL Ak Bf BK Bj Aj Vm.Done Bv AP Nl
theorem qO(a b:List Int)(d:0<a.length+b.length)(e:a.length+b.length≤1000) :
 Bf env 210 [.lst 41 [.lst 3 (cells a) a.length,.lst 3 (cells b) b.length] 2] 3 (cells (a++b)) (a.length+b.length) false:=by
 have c:=vY (a.length+b.length) d (by omega);rw[show((a.length+b.length:Nat):Int)=0+(a.length:Int)+(b.length:Int) by omega] at c;refine Bf.enter (Af (by decide)) Tryz.func210 rfl (by kernel_rfl) (by simp[Tryz.ntmps210]) ?_
 repeat' (first|refine go1 ?_|fail)
 refine Ad.nZ 2 ?_
 repeat' (first|(apply jz;rfl;rfl;exact c)|(apply mh;rfl;rfl;rfl;decide;decide)|refine go1 ?_|(apply Nl.zero)|(apply Nl.succ)|(apply km)|refine a7 ?_|(apply ei;rfl)|(apply cn;rfl)|(apply b5;rfl))
 refine Ad.nZ 2 ?_
 repeat' (first|(apply mh;rfl;rfl;rfl;decide;decide)|(apply pu (l:=a) (r:=b);rfl;rfl;rfl;rfl;rfl;rfl;rfl;(intro _ h;cases h);rfl;rfl;rfl;decide;decide;omega)|(apply pw (r:=a);rfl;rfl;rfl;rfl;rfl;rfl;(intro _ h;cases h);rfl;rfl;rfl;decide;decide;omega)|refine go1 ?_|(apply Nl.zero)|(apply Nl.succ)|(apply km)|refine a7 ?_|(apply ei;rfl)|(apply cn;rfl))
 exact Bv.ret rfl rfl rfl rfl
theorem qF(a:List Int)(c:0<a.length)(d:a.length≤1000) :
 Bf env 210 [.lst 41 [.lst 3 (cells a) a.length] 1] 3 (cells a) a.length false:=by
 have b:=vY a.length c (by omega);rw[show((a.length:Nat):Int)=0+(a.length:Int) by omega] at b;refine Bf.enter (Af (by decide)) Tryz.func210 rfl (by kernel_rfl) (by simp[Tryz.ntmps210]) ?_
 repeat' (first|refine go1 ?_|fail)
 refine Ad.nZ 1 ?_
 repeat' (first|(apply jz;rfl;rfl;exact b)|(apply mh;rfl;rfl;rfl;decide;decide)|refine go1 ?_|(apply Nl.zero)|(apply Nl.succ)|(apply km)|refine a7 ?_|(apply ei;rfl)|(apply cn;rfl)|(apply b5;rfl))
 refine Ad.nZ 1 ?_
 repeat' (first|(apply mh;rfl;rfl;rfl;decide;decide)|(apply pw (r:=a);rfl;rfl;rfl;rfl;rfl;rfl;(intro _ h;cases h);rfl;rfl;rfl;decide;decide;omega)|refine go1 ?_|(apply Nl.zero)|(apply Nl.succ)|(apply km)|refine a7 ?_|(apply ei;rfl)|(apply cn;rfl))
 exact Bv.ret rfl rfl rfl rfl
end Go.Proofs.YthlffjlbidibdaaGreatDoor
