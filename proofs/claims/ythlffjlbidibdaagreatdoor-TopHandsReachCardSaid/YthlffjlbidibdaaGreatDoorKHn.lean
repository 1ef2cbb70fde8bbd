/-
  Texts of a proof, merged (PieM, OrQd, PieR, HanB, HanC, HanD, HanE, HanF, Vm35). Conditions: in each statement.
-/
import Derived.Test.YthlffjlbidibdaaGreatDoorKHm
set_option linter.unusedSimpArgs false
set_option autoImplicit true
set_option relaxedAutoImplicit true
set_option linter.unusedVariables false
set_option linter.unusedSectionVars false
set_option maxRecDepth 100000
set_option maxHeartbeats 8000000
abbrev gv:=@List.take_set_of_le
abbrev ja:=@List.drop_set_of_lt
namespace Go.Proofs.YthlffjlbidibdaaGreatDoor
open Go Go.Am Go.Vm Go.Pie
attribute [local irreducible] Aa Ah Ai Ad AL Ak Bf BK Bj Aj Vm.Done Bv AP
attribute [local irreducible] Cb Bg D5 DU EF AV CB
structure Sd8 where
 st:Nat
 lg:Nat
 dv:Nat
 ky:Nat
instance:Enc Sd8:={ default:=⟨0,0,0,0⟩,enc:=fun x=>[.int .u8 (x.st:Int),.int .u8 (x.lg:Int),.int .u8 (x.dv:Int),.int .u8 (x.ky:Int)],size:=4,len:=fun _=>rfl }
structure Mrk where
 bar:Nat
 b:Nat→Nat
instance:Enc Mrk:={ default:=⟨0,fun _=>0⟩,enc:=fun x=>[.int .u8 (x.bar:Int),.int .u8 (x.b 0:Int),.int .u8 (x.b 1:Int),.int .u8 (x.b 2:Int),.int .u8 (x.b 3:Int),.int .u8 (x.b 4:Int)],size:=6,len:=fun _=>rfl }
structure jK where
 org:OPl
 bars:List UInt8
 notes:List Sd8
 sets:List Mrk
def jK.enc(x:jK):List FV:=[.lst 197 (cells x.org.ranks) x.org.ranks.length,.lst 133 (cells x.org.Ae) x.org.Ae.length,.lst 205 (cells x.org.links) x.org.links.length,
 .lst 5 (cells x.bars) x.bars.length,.lst 136 (cells x.notes) x.notes.length,.lst 142 (cells x.sets) x.sets.length]
structure jK.Ok(x:jK):Prop where
 org:x.org.Ok
 nb:x.bars.length<9223372036854775808
 nn:x.notes.length<9223372036854775808
 ns:x.sets.length<9223372036854775808
 notes:∀i,i<x.notes.length→(gi x.notes i).st<256∧(gi x.notes i).lg<256∧(gi x.notes i).dv<256∧(gi x.notes i).ky<256
 sets:∀i,i<x.sets.length→(gi x.sets i).bar<256∧∀j,(gi x.sets i).b j<256
def QA(x:jK):Prop:=bY x.org∧(0<x.bars.length∧x.bars.length≤4)∧x.notes.length≤8∧x.sets.length≤3
noncomputable instance (x:jK):Decidable (QA x):=Classical.propDecidable _
theorem a3j(x:jK)(b:x.Ok):Ak env 5 [.agg x.enc] (.p (.bool (decide (QA x)))):=by
 have a:=b0a x.org b.org;have b1:=b.nb;have b2:=b.nn;have b3:=b.ns;by_cases c:bY x.org
 ·rw[decide_eq_true c] at a
  by_cases d:(0<x.bars.length∧x.bars.length≤4)∧x.notes.length≤8∧x.sets.length≤3
  ·rw[decide_eq_true (p:=QA x) ⟨c,d⟩]
   refine Ak.enter (Af (by decide)) Tryz.func5 rfl (by kernel_rfl) (by simp[Tryz.ntmps5]) ?_
   repeat' (first|refine a6 a ?_|refine Fh ?_|(apply Ah.guard;rfl;rfl)|refine a7 ?_|(intro _;try omega))
   all_goals first|omega|contradiction|(refine aa ?_;try rfl)
   all_goals exact kx (by simp;omega)
  ·rw[decide_eq_false (p:=QA x) (fun h=>d h.2)]
   refine Ak.enter (Af (by decide)) Tryz.func5 rfl (by kernel_rfl) (by simp[Tryz.ntmps5]) ?_
   repeat' (first|refine a6 a ?_|refine Fh ?_|(apply Ah.guard;rfl;rfl)|refine a7 ?_|(intro _;try omega))
   all_goals first|omega|contradiction|(refine aa ?_;try rfl)
   all_goals exact kx (by simp;omega)
 ·rw[decide_eq_false c] at a
  rw[decide_eq_false (p:=QA x) (fun h=>c h.1)];refine Ak.enter (Af (by decide)) Tryz.func5 rfl (by kernel_rfl) (by simp[Tryz.ntmps5]) ?_
  repeat' (first|refine a6 a ?_|refine Fh ?_|fail)
  all_goals first|omega|contradiction|(refine aa ?_;try rfl)
def bM(l:List UInt8):Nat→Int
 |0=>0
 |i+1=>bM l i+1+((gi l i).toNat:Int)%6
theorem qY(l:List UInt8):∀i:Nat,(i:Int)≤bM l i∧bM l i≤6*i
 |0=>by simp[bM]
 |i+1=>by
  have:=qY l i;unfold bM;omega
def ntP(o:FZ)(z:Int)(y:Sd8):LM :=
 ⟨(y.st:Int)%z,min z ((y.st:Int)%z+1+(y.lg:Int)%8),(y.dv:Int)%(o.Ae.length:Int),
  (gi o.Ae ((y.dv:Int)%(o.Ae.length:Int)).toNat).lo+(y.ky:Int)%((gi o.Ae ((y.dv:Int)%(o.Ae.length:Int)).toNat).hi-(gi o.Ae ((y.dv:Int)%(o.Ae.length:Int)).toNat).lo+1)⟩
def Iy(o:FZ)(z:Int)(l:List Sd8):Nat→List LM
 |0=>[]
 |k+1=>if(Iy o z l k).any (fun m=>jX m (ntP o z (gi l k)))=true then Iy o z l k else Iy o z l k++[ntP o z (gi l k)]
theorem Rx(o:FZ)(z:Int)(l:List Sd8):∀k,(Iy o z l k).length≤k
 |0=>ab _
 |k+1=>by
  have:=Rx o z l k;unfold Iy;grind
def PK(nb:Nat)(l:List Mrk):Nat→Int
 |0=>-1
 |k+1=>if((gi l k).bar:Int)%(nb:Int)>PK nb l k then((gi l k).bar:Int)%(nb:Int) else PK nb l k
noncomputable def JW(o:FZ)(nb:Nat)(l:List Mrk):Nat→List iU
 |0=>[]
 |k+1=>if((gi l k).bar:Int)%(nb:Int)>PK nb l k then JW o nb l k++[⟨((gi l k).bar:Int)%(nb:Int),SG o (gi l k).b⟩] else JW o nb l k
theorem VQ(o:FZ)(nb:Nat)(l:List Mrk):∀k,(JW o nb l k).length≤k
 |0=>ab _
 |k+1=>by
  have:=VQ o nb l k;unfold JW;grind
noncomputable def d3k(o:FZ)(x:jK):Ez:=⟨Bh (bM x.bars) (x.bars.length+1),Iy o (bM x.bars x.bars.length) x.notes x.notes.length,JW o x.bars.length x.sets x.sets.length⟩
noncomputable def mkP(x:jK):Ez:=d3k (bP x.org) x
theorem b7u(a b:LM):Ak env 52 [.agg (Enc.enc a),.agg (Enc.enc b)] (.p (.bool (jX a b))):=by
 unfold jX;by_cases c:a.d=b.d
 case neg =>
  rw[decide_eq_false c,dj];refine Ak.enter (Af (by decide)) Tryz.func52 rfl (by kernel_rfl) (by simp[Tryz.ntmps52]) ?_
  repeat' (first|refine Fj ?_|(apply Ah.guard;rfl;rfl)|(intro _;try omega))
  all_goals first|omega|contradiction|(refine aa ?_;try rfl)
 by_cases f:a.k=b.k
 case neg =>
  rw[decide_eq_true c,decide_eq_false f,dj,cQ];refine Ak.enter (Af (by decide)) Tryz.func52 rfl (by kernel_rfl) (by simp[Tryz.ntmps52]) ?_
  repeat' (first|refine Fj ?_|(apply Ah.guard;rfl;rfl)|(intro _;try omega))
  all_goals first|omega|contradiction|(refine aa ?_;try rfl)
 by_cases g:a.s<b.e
 case neg =>
  rw[decide_eq_true c,decide_eq_true f,decide_eq_false g,dj,cQ];refine Ak.enter (Af (by decide)) Tryz.func52 rfl (by kernel_rfl) (by simp[Tryz.ntmps52]) ?_
  repeat' (first|refine Fj ?_|(apply Ah.guard;rfl;rfl)|(intro _;try omega))
  all_goals first|omega|contradiction|(refine aa ?_;try rfl)
 rw[decide_eq_true c,decide_eq_true f,decide_eq_true g,cQ,cQ,cQ];refine Ak.enter (Af (by decide)) Tryz.func52 rfl (by kernel_rfl) (by simp[Tryz.ntmps52]) ?_
 repeat' (first|refine Fj ?_|(apply Ah.guard;rfl;rfl)|(intro _;try omega))
 all_goals first|omega|contradiction|(refine aa ?_;try rfl)
theorem a4t(n m:LM):Ej env 51 ([.p (.agg (Enc.enc m))]++[.ref 0 0]) [(0,b0f n)] 1 (.bool (jX m n)):=by
 have h:=b7u m n;refine Ej.enter (Af (by decide)) Tryz.func51 rfl (by kernel_rfl) (by simp) ?_
 repeat' (first|refine a6 h ?_|refine go1 ?_|fail)
 all_goals first|omega|(refine Done.ret rfl (.refl _) trivial ?_ (by omega) (ab _) ⟨?_,rfl,rfl⟩;exact DT;try rfl)
theorem uK(x:jK)(j:x.Ok)(T:QA x):Ak env 17 [.agg x.enc] (.DK [.p (.agg (Enc.enc (bP x.org))),.p (.agg (Enc.enc (mkP x)))]):=by
 obtain⟨f1,f2,f3,f4⟩:=T;have P:=zf x.org j.org f1;have I:=yY x.org j.org f1;have C:=fun i (hi:i<x.sets.length)=>a3c (bP x.org) I (gi x.sets i).b (j.sets i hi).2
 have q:=qY x.bars;unfold mkP d3k;generalize bP x.org=o at *;have d1:=I.Ae;have s:(Bh (bM x.bars) (x.bars.length+1)).length=x.bars.length+1:=Cm _ _;refine Ak.enter (Af (by decide)) Tryz.func17 rfl (by kernel_rfl) (by simp[Tryz.ntmps17]) ?_
 repeat' (first|refine a6 P ?_|refine Fh ?_|refine b7 ?_|refine bi ?_|fail)
 all_goals try omega
 apply Ad.EY (x.bars.length) [(1,_),(2,_),(3,_),(4,_),(5,_),(24,_),(25,_)] [(0,_),(1,_),(2,_),(3,_)] (fun k r=>(26,.p (.int .i64 (k:Int)))::r) (fun k r=>(4,.vec 3 (cells (Bh (bM x.bars) (k+1))) (Bh (bM x.bars) (k+1)).length false)::(5,.box 45 [.vec 4 (Bh (bM x.bars) (k+1)).length 0 (Bh (bM x.bars) (k+1)).length,.p (.val (.slice none 0 0)),.p (.val (.slice none 0 0))])::r) 6
 ·first|omega|decide
 ·first|omega|decide
 ·exact Ns
 ·exact O9
 ·intro k n
  have hl:(Bh (bM x.bars) (k+1)).length=k+1:=Cm _ _;have B:gi (Bh (bM x.bars) (k+1)) k=bM x.bars k:=Dz _ (by omega);have e:=q k;have hu:=(gi x.bars k).toNat_lt;have c:Bh (bM x.bars) (k+1+1)=Bh (bM x.bars) (k+1)++[bM x.bars k+1+((gi x.bars k).toNat:Int)%6]:=rfl;have f:(Bh (bM x.bars) (k+1+1)).length=(Bh (bM x.bars) (k+1)).length+1:=by rw[c];simp
  repeat' (first|(apply li;rfl;rfl;(first|omega|(simp only[List.length_set]<;>omega));exact congrArg (fun b=>some (FV.int .i64 b)) (B))|refine d7 (a:=(bM x.bars k+1+((gi x.bars k).toNat:Int)%6)) ?_|refine b9 ?_|(apply g9;rfl;rfl;rfl;rfl;omega)|refine KP ?_|refine a7 ?_|refine bi ?_|refine eR ?_|(apply a8;rfl)|(intro _;try omega))
  all_goals try omega
  refine Aj.normal ⟨by first|omega|decide,?_,?_⟩
  ·try(rw[f,c])
   exact Dh
  ·rw[f,c]
   exact DT
 ·have B:gi (Bh (bM x.bars) (x.bars.length+1)) x.bars.length=bM x.bars x.bars.length:=Dz _ (by omega)
  have e:=q x.bars.length;have u:((Bh (bM x.bars) (x.bars.length+1)).length:Int)-1=(x.bars.length:Int):=by omega
  repeat' (first|(apply li;rfl;rfl;(first|omega|(simp only[List.length_set]<;>omega));exact congrArg (fun b=>some (FV.int .i64 b)) (B))|(apply g9 (l:=Bh (bM x.bars) (x.bars.length+1)) (i:=x.bars.length);rfl;rfl;exact congrArg (fun b=>some (PV.p (.int .i64 b))) u;rfl;omega)|(apply eC;rfl;rfl;rfl)|refine Fh ?_|refine a7 ?_|(apply a8;rfl)|(intro _;try omega))
  all_goals try omega
  refine cb (jw 5 1 64 rfl rfl) ?_;refine cb (jw 5 2 148 rfl rfl) ?_;obtain⟨z,M⟩:∃z,z=bM x.bars x.bars.length:=⟨_,rfl⟩
  rw[← M] at e ⊢;apply Ad.EY (x.notes.length) [(1,_),(2,_),(3,_),(4,_),(5,_),(8,_),(56,_),(57,_)] [(0,_),(1,_),(2,_),(3,_),(4,_),(7,_)] (fun k r=>(58,.p (.int .i64 (k:Int)))::r) (fun k r=>(6,.vec 64 (cells (Iy o z x.notes k)) (Iy o z x.notes k).length true)::(5,.box 45 [.vec 4 (Bh (bM x.bars) (x.bars.length+1)).length 0 (Bh (bM x.bars) (x.bars.length+1)).length,.vec 6 (Iy o z x.notes k).length 0 (Iy o z x.notes k).length,.vec 7 0 0 0])::r) 8
  ·first|omega|decide
  ·first|omega|decide
  ·exact Ns
  ·exact O9
  ·intro k n
   have A:=Rx o z x.notes k;obtain⟨y1,y2,y3,Z⟩:=j.notes k n;have W:0≤((gi x.notes k).dv:Int)%(o.Ae.length:Int):=bE _ (by omega);have V:((gi x.notes k).dv:Int)%(o.Ae.length:Int)<(o.Ae.length:Int):=bz _ (by omega);have U:=I.dv (((gi x.notes k).dv:Int)%(o.Ae.length:Int)).toNat (by omega);have O:0≤((gi x.notes k).st:Int)%z:=bE _ (by omega);have N:((gi x.notes k).st:Int)%z<z:=bz _ (by omega);have S:0≤((gi x.notes k).ky:Int)%((gi o.Ae (((gi x.notes k).dv:Int)%(o.Ae.length:Int)).toNat).hi-(gi o.Ae (((gi x.notes k).dv:Int)%(o.Ae.length:Int)).toNat).lo+1):=bE _ (by omega);have R:((gi x.notes k).ky:Int)%((gi o.Ae (((gi x.notes k).dv:Int)%(o.Ae.length:Int)).toNat).hi-(gi o.Ae (((gi x.notes k).dv:Int)%(o.Ae.length:Int)).toNat).lo+1)<(gi o.Ae (((gi x.notes k).dv:Int)%(o.Ae.length:Int)).toNat).hi-(gi o.Ae (((gi x.notes k).dv:Int)%(o.Ae.length:Int)).toNat).lo+1:=bz _ (by omega);have d:=a6m 51 (ntP o z (gi x.notes k)) (Iy o z x.notes k) true (fun m=>jX m (ntP o z (gi x.notes k))) (by omega) (fun m=>a4t (ntP o z (gi x.notes k)) m);have c:Iy o z x.notes (k+1)=if(Iy o z x.notes k).any (fun m=>jX m (ntP o z (gi x.notes k)))=true then Iy o z x.notes k else Iy o z x.notes k++[ntP o z (gi x.notes k)]:=rfl
   by_cases e:(Iy o z x.notes k).any (fun m=>jX m (ntP o z (gi x.notes k)))=true
   ·rw[if_pos e] at c
    rw[e] at d
    repeat' (first|(apply eO [10,6] d;rfl;rfl;exact .of_eq rfl;exact eA rfl;exact Dp rfl;(repeat(first|exact trivial|refine⟨⟨_,rfl,.of_eq rfl⟩,?_⟩));decide;(intro _ e;simp at e<;>omega);rfl)|(apply Aa.makeFunc;rfl;rfl)|refine b9 ?_|(apply lj;rfl;rfl;rfl;omega;omega;rfl)|refine KP ?_|refine a7 ?_|refine b7 ?_|(apply mr;rfl;rfl)|refine eR ?_|(apply a8;rfl)|(apply b5;rfl)|(intro _;try omega))
    all_goals try omega
    refine Aj.normal ⟨by first|omega|decide,?_,?_⟩
    ·try(rw[c])
     exact Dh
    ·rw[c]
     exact DT
   ·rw[if_neg e] at c
    have G:(Iy o z x.notes k).any (fun m=>jX m (ntP o z (gi x.notes k)))=false:=by simpa using e
    rw[G] at d;have f:(Iy o z x.notes (k+1)).length=(Iy o z x.notes k).length+1:=by rw[c];simp
    repeat' (first|(apply eO [10,6] d;rfl;rfl;exact .of_eq rfl;exact eA rfl;exact Dp rfl;(repeat(first|exact trivial|refine⟨⟨_,rfl,.of_eq rfl⟩,?_⟩));decide;(intro _ e;simp at e<;>omega);rfl)|(apply Aa.makeFunc;rfl;rfl)|refine d7 (a:=ntP o z (gi x.notes k)) ?_|refine b9 ?_|(apply lj;rfl;rfl;rfl;omega;omega;rfl)|refine KP ?_|refine a7 ?_|refine b7 ?_|refine bi ?_|(apply mr;rfl;rfl)|refine eR ?_|(apply a8;rfl)|(apply b8;rfl)|(intro _;try omega))
    all_goals try omega
    refine Aj.normal ⟨by first|omega|decide,?_,?_⟩
    ·try(rw[f,c])
     exact Dh
    ·rw[f,c]
     exact DT
  ·have A:=Rx o z x.notes x.notes.length
   repeat' (first|refine Fj ?_|(apply a8;rfl)|(intro _;try omega))
   all_goals try omega
   apply Ad.EY (x.sets.length) [(1,_),(2,_),(3,_),(4,_),(5,_),(119,_),(120,_)] [(0,_),(1,_),(2,_),(3,_),(4,_),(6,_)] (fun k r=>(121,.p (.int .i64 (k:Int)))::(14,.p (.int .i64 (PK x.bars.length x.sets k)))::r) (fun k r=>(7,.vec 148 (cells (JW o x.bars.length x.sets k)) (JW o x.bars.length x.sets k).length true)::(5,.box 45 [.vec 4 (Bh (bM x.bars) (x.bars.length+1)).length 0 (Bh (bM x.bars) (x.bars.length+1)).length,.vec 6 (Iy o z x.notes x.notes.length).length 0 (Iy o z x.notes x.notes.length).length,.vec 7 (JW o x.bars.length x.sets k).length 0 (JW o x.bars.length x.sets k).length])::r) 8
   ·first|omega|decide
   ·first|omega|decide
   ·exact Ns
   ·exact O9
   ·intro k n
    have y:=VQ o x.bars.length x.sets k;have hy:=(j.sets k n).1;have F:=C k n;have Y:0≤((gi x.sets k).bar:Int)%(x.bars.length:Int):=bE _ (by omega);have X:((gi x.sets k).bar:Int)%(x.bars.length:Int)<(x.bars.length:Int):=bz _ (by omega);have c:JW o x.bars.length x.sets (k+1)=if((gi x.sets k).bar:Int)%(x.bars.length:Int)>PK x.bars.length x.sets k then JW o x.bars.length x.sets k++[⟨((gi x.sets k).bar:Int)%(x.bars.length:Int),SG o (gi x.sets k).b⟩] else JW o x.bars.length x.sets k:=rfl
    have g:PK x.bars.length x.sets (k+1)=if((gi x.sets k).bar:Int)%(x.bars.length:Int)>PK x.bars.length x.sets k then((gi x.sets k).bar:Int)%(x.bars.length:Int) else PK x.bars.length x.sets k:=rfl
    by_cases K:((gi x.sets k).bar:Int)%(x.bars.length:Int)>PK x.bars.length x.sets k
    ·rw[if_pos K] at c g
     have f:(JW o x.bars.length x.sets (k+1)).length=(JW o x.bars.length x.sets k).length+1:=by rw[c];simp
     repeat' (first|refine a6 F ?_|refine d7 (a:=(⟨((gi x.sets k).bar:Int)%(x.bars.length:Int),SG o (gi x.sets k).b⟩:iU)) ?_|refine b9 ?_|refine KP ?_|refine a7 ?_|refine b7 ?_|refine bi ?_|refine eR ?_|(apply a8;rfl)|(apply c8;rfl)|(intro _;try omega))
     all_goals try omega
     refine Aj.normal ⟨by first|omega|decide,?_,?_⟩
     ·try(first|rw[f,c]|rw[g])
      exact Dh
     ·first|rw[f,c]|rw[g]
      exact DT
    ·rw[if_neg K] at c g
     repeat' (first|refine b9 ?_|refine Fj ?_|refine eR ?_|(apply a8;rfl)|(apply c8;rfl)|(intro _;try omega))
     all_goals try omega
     refine Aj.normal ⟨by first|omega|decide,?_,?_⟩
     ·try(first|rw[c]|rw[g])
      exact Dh
     ·first|rw[c]|rw[g]
      exact DT
   ·have y:=VQ o x.bars.length x.sets x.sets.length
    have J:(Bh (bM x.bars) (x.bars.length+1)).length=x.bars.length+1:=s
    repeat' (first|(refine Ad.at 27 ?_;refine cb (Ap.trans (e9 5 0 rfl rfl rfl) (Ap.trans (e9 5 1 rfl rfl rfl) (e9 5 2 rfl rfl rfl))) ?_;first|apply ce|apply da)|(refine i7 2 ?_;apply Ai.weak [.tmp 5];decide +kernel;rfl;rfl;(first|exact Oi.ref rfl|exact Oi.vec rfl|exact Oi.Fb rfl);decide +kernel;rfl)|apply ce|apply jx|apply BK.normal|apply Bj.exit|apply Aj.exit|apply Ad.ret|apply Ah.nil|apply Ai.nil|apply c9|(apply Ai.bar;decide +kernel)|apply Ai.quiet|refine a7 ?_|(apply Aa.load;rfl;rfl)|refine d9 ?_|(apply a8;rfl)|(intro _;try omega))
    all_goals first|omega|(refine aa ?_;try rfl)
end Go.Proofs.YthlffjlbidibdaaGreatDoor
namespace Go.Proofs.YthlffjlbidibdaaGreatDoor
open Go Go.Am Go.Vm
theorem iP(x n:Nat):(x &&& (2^n-1)) / 2^n=0 :=by simp
theorem a9k(o:FZ)(d:a1r o)(b:Nat→Nat)(c:∀i,b i<256):(SG o b).Ok:=by
 have e:=d.Ae;have l:=Cm (Ir o b) o.Ae.length;refine⟨fun i a=>?_,?_,?_,?_⟩
 ·have a:i<(Bh (Ir o b) o.Ae.length).length:=a
  rw[l] at a;show gi (Bh (Ir o b) o.Ae.length) i<_;rw[Dz _ a];have:=c (i%3);have:Ir o b i≤b (i%3):=ge;omega
 ·have:=c 3
  have:b 3 &&& (2^o.IW.length-1)≤b 3:=ge;show b 3 &&& (2^o.IW.length-1)<_;omega
 ·have:=c 4
  have:b 4 &&& (2^o.Ae.length-1)≤b 4:=ge;show b 4 &&& (2^o.Ae.length-1)<_;omega
 ·show(Bh (Ir o b) o.Ae.length).length<_
  omega
theorem a1q(o:FZ)(b:Nat→Nat):Vw o (SG o b)=0:=by
 have l:=Cm (Ir o b) o.Ae.length;rw[nP (show(Bh (Ir o b) o.Ae.length).length=_ from l) fun i a=>?_]
 ·rw[if_neg]
  intro h;rcases h with h|h
  ·exact h (iP _ _)
  ·exact h (iP _ _)
 ·have a:i<(Bh (Ir o b) o.Ae.length).length:=a
  rw[l] at a;show gi (Bh (Ir o b) o.Ae.length) i / _=0;rw[Dz _ a];exact iP _ _
open Go.Pie
attribute [local irreducible] Cb Bg D5 DU EF AV CB
structure NtR(o:FZ)(z:Int)(n:LM):Prop where
 d:0≤n.d∧n.d<o.Ae.length
 k:(gi o.Ae n.d.toNat).lo≤n.k∧n.k≤(gi o.Ae n.d.toNat).hi
 r:0≤n.s∧n.s<n.e∧n.e≤z
theorem d0z(a:a1r o)(b:0<z)(y:Sd8):NtR o z (ntP o z y):=by
 have f:=a.Ae;have d:=bE (y.dv:Int) (show(o.Ae.length:Int)≠0 by omega);have c:=bz (y.dv:Int) (show 0<(o.Ae.length:Int) by omega);have j:=bE (y.st:Int) (show z≠0 by omega);have i:=bz (y.st:Int) b;have e:=a.dv ((y.dv:Int)%(o.Ae.length:Int)).toNat (by omega);refine⟨⟨d,c⟩,?_,?_⟩
 ·show(gi o.Ae ((y.dv:Int)%(o.Ae.length:Int)).toNat).lo≤(gi o.Ae ((y.dv:Int)%(o.Ae.length:Int)).toNat).lo+(y.ky:Int)%((gi o.Ae ((y.dv:Int)%(o.Ae.length:Int)).toNat).hi-(gi o.Ae ((y.dv:Int)%(o.Ae.length:Int)).toNat).lo+1)∧(gi o.Ae ((y.dv:Int)%(o.Ae.length:Int)).toNat).lo+(y.ky:Int)%((gi o.Ae ((y.dv:Int)%(o.Ae.length:Int)).toNat).hi-(gi o.Ae ((y.dv:Int)%(o.Ae.length:Int)).toNat).lo+1)≤(gi o.Ae ((y.dv:Int)%(o.Ae.length:Int)).toNat).hi
  generalize gi o.Ae ((y.dv:Int)%(o.Ae.length:Int)).toNat=D at *;have h:=bE (y.ky:Int) (show D.hi-D.lo+1≠0 by omega);have g:=bz (y.ky:Int) (show 0<D.hi-D.lo+1 by omega);omega
 ·show 0≤(y.st:Int)%z∧(y.st:Int)%z<min z ((y.st:Int)%z+1+(y.lg:Int)%8)∧min z ((y.st:Int)%z+1+(y.lg:Int)%8)≤z
  omega
theorem b7a(b:a1r o)(a:0<z)(l:List Sd8):∀k,∀i,i<(Iy o z l k).length→NtR o z (gi (Iy o z l k) i)∧∀j,j<i→jX (gi (Iy o z l k) j) (gi (Iy o z l k) i)=false
 |0,i,hi=>by contradiction
 |k+1,i,hi=>by
  have g:=b7a b a l k;unfold Iy at hi ⊢;split at hi
  ·grind
  ·rename_i n
   rw[if_neg n];rw[ar] at hi;have h:i<(Iy o z l k).length+1:=hi;by_cases e:i<(Iy o z l k).length
   ·obtain⟨d,p⟩:=g i e
    rw[I4,if_pos e];refine⟨d,fun j c=>?_⟩;rw[I4,if_pos (by omega)];grind
   ·obtain rfl:i=(Iy o z l k).length:=by omega
    rw[I4,if_neg (by omega),if_pos rfl];refine⟨d0z b a _,fun j c=>?_⟩;rw[I4,if_pos c];have q:=(dH (l:=Iy o z l k) (f:=fun m=>jX m (ntP o z (gi l k))) (i:=(Iy o z l k).length) (ab _)).1 (by grind);grind
theorem yG(h:0<nb)(l:List Mrk):∀k,-1≤PK nb l k∧PK nb l k<nb
 |0=>by simp only[PK];omega
 |k+1=>by
  have:=yG h l k;have a:=bz ((gi l k).bar:Int) (show 0<(nb:Int) by omega);unfold PK;split<;>omega
theorem b9j(o:FZ)(h:0<nb)(l:List Mrk):∀k,k≤l.length→∀i,i<(JW o nb l k).length→(0≤(gi (JW o nb l k) i).bar∧(gi (JW o nb l k) i).bar≤PK nb l k) ∧
 (0<i→(gi (JW o nb l k) (i-1)).bar<(gi (JW o nb l k) i).bar)∧∃m,m<l.length∧(gi (JW o nb l k) i).reg=SG o (gi l m).b
 |0,_,i,hi=>by contradiction
 |k+1,hk,i,hi=>by
  have f:=b9j o h l k (by omega);have p:=bE ((gi l k).bar:Int) (show(nb:Int)≠0 by omega);have d:JW o nb l (k+1)=if((gi l k).bar:Int)%(nb:Int)>PK nb l k then JW o nb l k++[⟨((gi l k).bar:Int)%(nb:Int),SG o (gi l k).b⟩] else JW o nb l k:=rfl
  have c:PK nb l (k+1)=if((gi l k).bar:Int)%(nb:Int)>PK nb l k then((gi l k).bar:Int)%(nb:Int) else PK nb l k:=rfl
  rw[d] at hi;rw[d,c];by_cases a:((gi l k).bar:Int)%(nb:Int)>PK nb l k
  ·rw[if_pos a] at hi
   rw[if_pos a,if_pos a];rw[ar] at hi;have n:i<(JW o nb l k).length+1:=hi;by_cases e:i<(JW o nb l k).length
   ·obtain⟨d,c,j⟩:=f i e
    rw[I4,if_pos e];refine⟨by omega,fun g=>?_,j⟩;rw[I4,if_pos (by omega)];exact c g
   ·obtain rfl:i=(JW o nb l k).length:=by omega
    rw[I4,if_neg (by omega),if_pos rfl];refine⟨⟨p,bj _⟩,fun g=>?_,k,by omega,rfl⟩;rw[I4,if_pos (by omega)];have:=(f ((JW o nb l k).length-1) (by omega)).1;show _<((gi l k).bar:Int)%(nb:Int);omega
  ·rw[if_neg a] at hi
   rw[if_neg a,if_neg a];exact f i hi
theorem WR(x:jK)(h:i≤x.bars.length):gi (mkP x).bars i=bM x.bars i:=Dz _ (by omega)
theorem wM(x:jK):(mkP x).bars.length=x.bars.length+1:=Cm _ _
theorem c3c(x:jK):Ll (mkP x)=0:=WR x (ao _)
theorem c0p(x:jK):LW (mkP x)=bM x.bars x.bars.length:=by
 unfold LW;rw[wM];exact WR x (by omega)
theorem c4n(l:List UInt8)(i:Nat):bM l i<bM l (i+1):=by
 show _<bM l i+1+((gi l i).toNat:Int)%6;omega
theorem c5s(x:jK)(d:x.Ok)(g:QA x):XM (bP x.org) (mkP x):=by
 have f:=yY x.org d.org g.1;obtain⟨_,⟨f1,f2⟩,A,z⟩:=g;have n:0<bM x.bars x.bars.length:=by have:=(qY x.bars x.bars.length).1;omega
 have p:=b7a f n x.notes x.notes.length;have s:=Rx (bP x.org) (bM x.bars x.bars.length) x.notes x.notes.length;have h:=b9j (bP x.org) f1 x.sets x.sets.length (ab _);have r:=VQ (bP x.org) x.bars.length x.sets x.sets.length;have u:=yG f1 x.sets x.sets.length;have q:(mkP x).notes=Iy (bP x.org) (bM x.bars x.bars.length) x.notes x.notes.length:=rfl;have j:(mkP x).sets=JW (bP x.org) x.bars.length x.sets x.sets.length:=rfl;have B:=wM x;refine qK ⟨by omega,by grind,by grind,fun i a=>?_⟩ (by omega) (fun i a=>?_) (by grind) (fun i a=>?_) (by grind) fun i a=>?_
 ·rw[j] at a ⊢
  obtain⟨_,_,m,o,e⟩:=h i a;rw[e];exact a9k _ f _ (d.sets m o).2
 ·rw[WR x (by omega)]
  have:=qY x.bars i;refine⟨by omega,fun y=>?_⟩;rw[WR x (by omega)];have:=c4n x.bars (i-1)
  rwa[show i-1+1=i by omega] at this
 ·obtain⟨⟨c,b,l⟩,k⟩:=p i (by rw[← q];exact a)
  exact⟨c,b,by rw[c3c,c0p];exact l,k⟩
 ·rw[j] at a ⊢
  obtain⟨c,b,m,_,e⟩:=h i a;refine⟨by omega,b,?_⟩;rw[e];exact a1q _ _
theorem c3s(x:jK)(a:x.Ok)(b:QA x):OT (bP x.org) (mkP x)=0:=by
 unfold OT;rw[if_neg (fun h=>h (yY x.org a.org b.1).ok)];exact(c5s x a b).err
attribute [local irreducible] Aa Ah Ai Ad AL Ak Bf BK Bj Aj Vm.Done Bv AP
structure Qu where
 o:FZ
 p:Ez
 y:Nu
instance:Enc Qu:={ default:=⟨default,default,default⟩,enc:=fun x=>Enc.enc x.o++(Enc.enc x.p++Enc.enc x.y),size:=11,len:=fun x=>by rw[ar,ar,Enc.len,Enc.len,Enc.len];rfl }
structure IQ(q:Qu):Prop where
 o:SA q.o
 e:OT q.o q.p=0
 p:XM q.o q.p
 y:q.y.Ok
def FK(q:Qu)(i:Nat):Bool:=(gi q.o.Ae (gi q.p.notes i).d.toNat).FY
def VB(q:Qu)(N:List Int):Prop:=∀i,i<N.length→0≤gi N i∧gi N i<q.p.notes.length
theorem U9(q:Qu)(e:IQ q)(i:Nat)(g:i<q.p.notes.length):Ej env 63 ([.p (.agg (Enc.enc q)),.p (.int .i64 (i:Int))]++[]) [] 0 (.bool (FK q i)):=by
 have c:=e.p.note i g;obtain⟨j,a⟩:∃j:Nat,(gi q.p.notes i).d=(j:Int):=⟨(gi q.p.notes i).d.toNat,by have:=c.d;omega⟩
 have f:j<q.o.Ae.length:=by have:=c.d;omega
 have h:FK q i=(gi q.o.Ae j).FY:=by unfold FK;rw[a,az]
 rw[h];refine Ej.enter (Af (by decide)) Tryz.func63 rfl (by kernel_rfl) (by simp[Tryz.ntmps63]) ?_
 repeat' (first|refine b9 (l:=q.p.notes) (i:=i) ?_|(apply dl (l:=q.o.Ae) (i:=j);rfl;exact congrArg (fun b=>some (PV.p (.int .i64 b))) a;rfl;omega;rfl)|refine KP ?_|fail)
 all_goals first|omega|(refine Done.ret rfl (.refl _) trivial ?_ (by omega) (ab _) ⟨?_,rfl,rfl⟩;exact DT;try rfl)
def hasB(l:List Int)(h:Int)(i:Nat):Bool:=decide (gi l i=h)
def lhB(l:List Int)(h:Int):Heap:=[(0,.box 41 [.p (.lst 3 (cells l) l.length)]),(1,.box 3 [.p (.int .i64 h)])]
theorem a0g(l:List Int)(h:Int)(i:Nat)(a:i<l.length):Ej env 115 ([.p (.int .i64 (i:Int))]++[.ref 0 0,.ref 1 0]) (lhB l h) 2 (.bool (hasB l h i)):=by
 unfold lhB hasB;refine Ej.enter (Af (by decide)) Tryz.func115 rfl (by kernel_rfl) (by simp[Tryz.ntmps115]) ?_
 repeat' (first|refine b9 ?_|refine Fj ?_|fail)
 all_goals first|omega|(refine Done.ret rfl (.refl _) trivial ?_ (by omega) (ab _) ⟨?_,rfl,rfl⟩;exact DT;try rfl)
theorem b0o(i:Nat):Ej env 30 ([.p (.int .i64 (i:Int))]++[]) [] 0 (.bool true):=by
 refine Ej.enter (Af (by decide)) Tryz.func30 rfl (by kernel_rfl) (by simp) ?_
 repeat' (first|refine go1 ?_|fail)
 all_goals first|omega|(refine Done.ret rfl (.refl _) trivial ?_ (by omega) (ab _) ⟨?_,rfl,rfl⟩;exact DT;try rfl)
def V3(p:Ez)(N:List Int)(is:Nat→Bool)(d:Nat):Nat→List Int
 |0=>[]
 |k+1=>if is (gi N k).toNat=true∧(gi p.notes (gi N k).toNat).d=(d:Int) then V3 p N is d k++[(gi p.notes (gi N k).toNat).k] else V3 p N is d k
theorem FT(p:Ez)(N:List Int)(is:Nat→Bool)(d k:Nat):V3 p N is d (k+1)=if is (gi N k).toNat=true∧(gi p.notes (gi N k).toNat).d=(d:Int) then V3 p N is d k++[(gi p.notes (gi N k).toNat).k] else V3 p N is d k:=rfl
def VK(p:Ez)(N:List Int)(is:Nat→Bool)(k d:Nat):Gj:=Ul (V3 p N is d k) (V3 p N is d k).length
theorem ofK_left'(l:List Int)(x:Int):∀k,k≤l.length→Ul (l++[x]) k=Ul l k
 |0,_=>rfl
 |k+1,h=>by
  show FU (Ul (l++[x]) k) (gi (l++[x]) k).toNat=FU (Ul l k) (gi l k).toNat;rw[ofK_left' l x k (by omega),NK (by omega)]
theorem ofK_snoc'(l:List Int)(x:Int):Ul (l++[x]) (l++[x]).length=FU (Ul l l.length) x.toNat:=by
 rw[ar];show FU (Ul (l++[x]) l.length) (gi (l++[x]) l.length).toNat=_;rw[ofK_left' l x _ (ab _),Na]
theorem wF(p:Ez)(N:List Int)(is:Nat→Bool)(k d:Nat):VK p N is (k+1) d=if is (gi N k).toNat=true∧(gi p.notes (gi N k).toNat).d=(d:Int) then FU (VK p N is k d) (gi p.notes (gi N k).toNat).k.toNat else VK p N is k d:=by
 unfold VK;rw[FT];split
 ·exact ofK_snoc' _ _
 ·rfl
theorem Xk(p:Ez)(N:List Int)(is:Nat→Bool):∀n,List.replicate n (⟨0,0⟩:Gj)=Bh (VK p N is 0) n
 |0=>rfl
 |n+1=>by
  rw[gk,Xk p N is n];rfl
theorem rY{k n j:Nat}(b:j<n)(c:is (gi N k).toNat=true)(h:(gi p.notes (gi N k).toNat).d=(j:Int)):(Bh (VK p N is k) n).set j (FU (gi (Bh (VK p N is k) n) j) (gi p.notes (gi N k).toNat).k.toNat)=Bh (VK p N is (k+1)) n:=by
 refine LV (by rw[cX,Cm,Cm]) fun i a=>?_
 rw[cX,Cm] at a;rw[Ht,Dz _ a,Dz _ a,Dz _ b,Cm,wF];grind
theorem iR(a:is (gi N k).toNat=false):Bh (VK p N is (k+1)) n=Bh (VK p N is k) n:=Ld fun d _=>by
 rw[wF,if_neg (fun h=>by grind)]
theorem NT(b:IQ q)(g:VB q N){is:Nat→Bool}{d:Nat}:∀k,k≤N.length→∀i,i<(V3 q.p N is d k).length→0≤gi (V3 q.p N is d k) i∧gi (V3 q.p N is d k) i≤127
 |0,_,i,a=>absurd a (bc _)
 |k+1,hk,i,a=>by
  have h:=NT b g (is:=is) (d:=d) k (by omega);rw[FT] at a ⊢;split
  ·rename_i c
   rw[if_pos c,ar] at a;have a:i<(V3 q.p N is d k).length+1:=a;by_cases e:i<(V3 q.p N is d k).length
   ·rw[NK e];grind
   ·obtain rfl:i=(V3 q.p N is d k).length:=by omega
    rw[Na];have j:=g k (by omega);have f:=b.p.note (gi N k).toNat (by omega);have l:=b.o.cmp (i:=(gi q.p.notes (gi N k).toNat).d.toNat) (by have:=f.d;omega);have:=f.k;omega
  grind
theorem jG(a:Gj)(n:Nat):WO a (FU ⟨0,0⟩ n)=FU a n:=by
 unfold WO FU;split<;>simp
def F7(q:Qu)(N:List Int)(is:Nat→Bool):List Gj:=Bh (VK q.p N is N.length) q.o.Ae.length
theorem a0l(q:Qu)(f:IQ q)(N:List Int)(R:VB q N)(X:N.length≤1000):Ej env 29 [.p (.agg (Enc.enc q)),.p (.lst 3 (cells N) N.length),.clo 63 [.p (.agg (Enc.enc q))] []] [] 0 (.lst 106 (cells (F7 q N (FK q))) (F7 q N (FK q)).length):=by
 have J:=fun m a=>U9 q f m a
 generalize hIs:FK q=is at *;have Y:=f.p.notes;have d1:=f.o.Ae;have M:=Xk q.p N is q.o.Ae.length;have O:(F7 q N is).length=q.o.Ae.length:=Cm _ _;rw[O];unfold F7;refine Ej.enter (Af (by decide)) Tryz.func29 rfl (by kernel_rfl) (by simp[Tryz.ntmps29]) ?_
 repeat' (first|(apply ll q.o.Ae.length (⟨0,0⟩:Gj);rfl;rfl;rfl;rfl;rfl;rfl;rfl;omega;decide;decide;rfl)|refine go1 ?_|fail)
 all_goals try omega
 rw[M];apply Ad.EY (N.length) [(2,_),(3,_),(7,_),(18,_),(19,_)] [(0,_)] (fun k r=>(20,.p (.int .i64 (k:Int)))::r) (fun k r=>(1,.vec 106 (cells (Bh (VK q.p N is k) q.o.Ae.length)) q.o.Ae.length false)::r) 2
 ·first|omega|decide
 ·first|omega|decide
 ·exact Ns
 ·exact O9
 ·intro k T
  obtain⟨g1,Z⟩:=R k T;obtain⟨m,a⟩:∃m:Nat,gi N k=(m:Int):=⟨(gi N k).toNat,by omega⟩
  have u:m<q.p.notes.length:=by omega
  have x:=J m u;rw[← a] at x;cases g:is m with
  |false =>
   have h:=iR (p:=q.p) (N:=N) (is:=is) (k:=k) (n:=q.o.Ae.length) (by rw[a,az];exact g);rw[g] at x
   repeat' (first|(apply eO [] x;rfl;rfl;exact .of_eq rfl;exact eA rfl;exact Dp rfl;(repeat(first|exact trivial|refine⟨⟨_,rfl,.of_eq rfl⟩,?_⟩));decide;(intro _ K;simp at K<;>omega);rfl)|refine b9 ?_|refine go1 ?_|refine a7 ?_|(apply a8;rfl)|(apply b5;rfl)|(intro _;try omega))
   all_goals try omega
   all_goals try contradiction
   refine Aj.normal ⟨by first|omega|decide,?_,?_⟩
   ·try(rw[h])
    exact Dh
   ·rw[h]
    exact DT
  |true =>
   have e:=f.p.note m u;obtain⟨j,I⟩:∃j:Nat,(gi q.p.notes m).d=(j:Int):=⟨(gi q.p.notes m).d.toNat,by have:=e.d;omega⟩
   have c:j<q.o.Ae.length:=by have:=e.d;omega
   have U:=f.o.cmp (i:=j) c;have G:=e.k;rw[I,az] at G;obtain⟨z,P⟩:∃z:Nat,(gi q.p.notes m).k=(z:Int):=⟨(gi q.p.notes m).k.toNat,by omega⟩
   have A:z<128:=by omega
   have h:=rY (p:=q.p) (N:=N) (is:=is) (k:=k) c (by rw[a,az];exact g) (by rw[a,az];exact I);rw[a,az,P,az,← jG] at h;have S:(Bh (VK q.p N is k) q.o.Ae.length).length=q.o.Ae.length:=Cm _ _;have C:(gi (Bh (VK q.p N is k) q.o.Ae.length) j).Ok:=by
    rw[Dz _ c];exact U5 (NT f R k (by omega)) _ (ab _)
   have s:=SS [(gi q.p.notes m).k] (by simp) (fun i g=>by
    have:i=0:=by simpa using g
    subst this;show 0≤(gi q.p.notes m).k∧(gi q.p.notes m).k≤127;omega)
   have F:Ul [(gi q.p.notes m).k] [(gi q.p.notes m).k].length=FU ⟨0,0⟩ z:=by
    show FU ⟨0,0⟩ ((gi q.p.notes m).k).toNat=_;rw[P,az]
   rw[F] at s;have B:=Nv (gi (Bh (VK q.p N is k) q.o.Ae.length) j) (FU ⟨0,0⟩ z) C (SK OV A);rw[g] at x;generalize Bh (VK q.p N is k) q.o.Ae.length=V at *;generalize hW:(FU ⟨0,0⟩ z:Gj)=W at *
   repeat' (first|(refine eB 37 ?_;refine c7 (b6 36 rfl rfl) ?_)|apply ce|apply Ad.region|apply ka|apply f9|apply jt|apply BK.normal|apply Bj.normal|apply Ah.nil|apply Ai.nil|apply c9|(apply Ai.bar;decide +kernel)|apply Ai.quiet|(apply eO [] x;rfl;rfl;exact .of_eq rfl;exact eA rfl;exact Dp rfl;(repeat(first|exact trivial|refine⟨⟨_,rfl,.of_eq rfl⟩,?_⟩));decide;(intro _ K;simp at K<;>omega);rfl)|refine a6 s ?_|refine a6 B ?_|(apply dl (l:=q.p.notes) (i:=m);rfl;exact congrArg (fun b=>some (PV.p (.int .i64 b))) a;rfl;omega;rfl)|(apply g9 (l:=V) (i:=j);rfl;rfl;exact congrArg (fun b=>some (PV.p (.int .i64 b))) I;rfl;omega)|(apply li (l:=V) (i:=j);rfl;rfl;omega;rfl)|(apply kz (l:=V) (i:=j) (y:=WO (gi V j) W);rfl;rfl;rfl;trivial;rfl;rfl;rfl;decide;omega)|(apply Aa.assign;rfl)|(apply Aa.move;rfl)|(apply jl;rfl;rfl;omega)|refine a7 ?_|refine b9 ?_|(apply Aa.load;rfl;rfl)|(apply e8;rfl;rfl;rfl)|(apply Aa.alloc;rfl)|refine d9 ?_|refine bi ?_|(apply Aa.extract;rfl;rfl)|(apply a8;rfl)|(apply b8;rfl)|(intro _;try omega))
   all_goals try omega
   all_goals try contradiction
   refine Aj.normal ⟨by first|omega|decide,?_,?_⟩
   ·try(rw[← h])
    exact Dh
   ·rw[← h]
    exact DT
 ·repeat' (first|(refine Ad.at 10 ?_;refine cb (b6 7 rfl rfl) ?_;first|apply ce|apply da)|apply ce|refine go0 ?_|(apply a8;rfl)|(intro _;try omega))
  all_goals first|omega|(refine Done.ret rfl (.refl _) trivial ?_ (by omega) (ab _) ⟨?_,rfl,rfl⟩;exact DT;try rfl)
theorem a4j(q:Qu)(s:IQ q)(N:List Int)(S:VB q N)(Y:N.length≤1000)(l:List Int)(h:Int)(hl:l.length=q.p.notes.length):Ej env 29 [.p (.agg (Enc.enc q)),.p (.lst 3 (cells N) N.length),.clo 115 [] [.ref 0 0,.ref 1 0]] (lhB l h) 2 (.lst 106 (cells (F7 q N (hasB l h))) (F7 q N (hasB l h)).length):=by
 have K:=fun m (a:m<q.p.notes.length)=>a0g l h m (by omega)
 generalize hIs:hasB l h=is at *;unfold lhB at *;have Z:=s.p.notes;have d1:=s.o.Ae;have O:=Xk q.p N is q.o.Ae.length;have P:(F7 q N is).length=q.o.Ae.length:=Cm _ _;rw[P];unfold F7;refine Ej.enter (Af (by decide)) Tryz.func29 rfl (by kernel_rfl) (by simp[Tryz.ntmps29]) ?_
 repeat' (first|(apply ll q.o.Ae.length (⟨0,0⟩:Gj);rfl;rfl;rfl;rfl;rfl;rfl;rfl;omega;decide;decide;rfl)|refine go1 ?_|fail)
 all_goals try omega
 rw[O];apply Ad.EY (N.length) [(2,_),(3,_),(7,_),(18,_),(19,_)] [(0,_),(1,_),(2,_)] (fun k r=>(20,.p (.int .i64 (k:Int)))::r) (fun k r=>(3,.vec 106 (cells (Bh (VK q.p N is k) q.o.Ae.length)) q.o.Ae.length false)::r) 4
 ·first|omega|decide
 ·first|omega|decide
 ·exact Ns
 ·exact O9
 ·intro k U
  obtain⟨g1,g2⟩:=S k U;obtain⟨m,a⟩:∃m:Nat,gi N k=(m:Int):=⟨(gi N k).toNat,by omega⟩
  have x:m<q.p.notes.length:=by omega
  have A:=K m x;rw[← a] at A;cases f:is m with
  |false =>
   have g:=iR (p:=q.p) (N:=N) (is:=is) (k:=k) (n:=q.o.Ae.length) (by rw[a,az];exact f);rw[f] at A
   repeat' (first|(apply eO [0,1] A;rfl;rfl;exact .of_eq rfl;exact eA rfl;exact Dp rfl;(repeat(first|exact trivial|refine⟨⟨_,rfl,.of_eq rfl⟩,?_⟩));decide;(intro _ M;simp at M<;>omega);rfl)|refine b9 ?_|refine go1 ?_|refine a7 ?_|(apply a8;rfl)|(apply b5;rfl)|(intro _;try omega))
   all_goals try omega
   all_goals try contradiction
   refine Aj.normal ⟨by first|omega|decide,?_,?_⟩
   ·try(rw[g])
    exact Dh
   ·rw[g]
    exact DT
  |true =>
   have e:=s.p.note m x;obtain⟨j,J⟩:∃j:Nat,(gi q.p.notes m).d=(j:Int):=⟨(gi q.p.notes m).d.toNat,by have:=e.d;omega⟩
   have c:j<q.o.Ae.length:=by have:=e.d;omega
   have X:=s.o.cmp (i:=j) c;have I:=e.k;rw[J,az] at I;obtain⟨z,R⟩:∃z:Nat,(gi q.p.notes m).k=(z:Int):=⟨(gi q.p.notes m).k.toNat,by omega⟩
   have B:z<128:=by omega
   have g:=rY (p:=q.p) (N:=N) (is:=is) (k:=k) c (by rw[a,az];exact f) (by rw[a,az];exact J);rw[a,az,R,az,← jG] at g;have T:(Bh (VK q.p N is k) q.o.Ae.length).length=q.o.Ae.length:=Cm _ _;have F:(gi (Bh (VK q.p N is k) q.o.Ae.length) j).Ok:=by
    rw[Dz _ c];exact U5 (NT s S k (by omega)) _ (ab _)
   have u:=SS [(gi q.p.notes m).k] (by simp) (fun i f=>by
    have:i=0:=by simpa using f
    subst this;show 0≤(gi q.p.notes m).k∧(gi q.p.notes m).k≤127;omega)
   have G:Ul [(gi q.p.notes m).k] [(gi q.p.notes m).k].length=FU ⟨0,0⟩ z:=by
    show FU ⟨0,0⟩ ((gi q.p.notes m).k).toNat=_;rw[R,az]
   rw[G] at u;have C:=Nv (gi (Bh (VK q.p N is k) q.o.Ae.length) j) (FU ⟨0,0⟩ z) F (SK OV B);rw[f] at A;generalize Bh (VK q.p N is k) q.o.Ae.length=V at *;generalize hW:(FU ⟨0,0⟩ z:Gj)=W at *
   repeat' (first|(refine eB 37 ?_;refine c7 (b6 36 rfl rfl) ?_)|apply ce|apply Ad.region|apply ka|apply f9|apply jt|apply BK.normal|apply Bj.normal|apply Ah.nil|apply Ai.nil|apply c9|(apply Ai.bar;decide +kernel)|apply Ai.quiet|(apply eO [0,1] A;rfl;rfl;exact .of_eq rfl;exact eA rfl;exact Dp rfl;(repeat(first|exact trivial|refine⟨⟨_,rfl,.of_eq rfl⟩,?_⟩));decide;(intro _ M;simp at M<;>omega);rfl)|refine a6 u ?_|refine a6 C ?_|(apply dl (l:=q.p.notes) (i:=m);rfl;exact congrArg (fun b=>some (PV.p (.int .i64 b))) a;rfl;omega;rfl)|(apply g9 (l:=V) (i:=j);rfl;rfl;exact congrArg (fun b=>some (PV.p (.int .i64 b))) J;rfl;omega)|(apply li (l:=V) (i:=j);rfl;rfl;omega;rfl)|(apply kz (l:=V) (i:=j) (y:=WO (gi V j) W);rfl;rfl;rfl;trivial;rfl;rfl;rfl;decide;omega)|(apply Aa.assign;rfl)|(apply Aa.move;rfl)|(apply jl;rfl;rfl;omega)|refine a7 ?_|refine b9 ?_|(apply Aa.load;rfl;rfl)|(apply e8;rfl;rfl;rfl)|(apply Aa.alloc;rfl)|refine d9 ?_|refine bi ?_|(apply Aa.extract;rfl;rfl)|(apply a8;rfl)|(apply b8;rfl)|(intro _;try omega))
   all_goals try omega
   all_goals try contradiction
   refine Aj.normal ⟨by first|omega|decide,?_,?_⟩
   ·try(rw[← g])
    exact Dh
   ·rw[← g]
    exact DT
 ·repeat' (first|(refine Ad.at 10 ?_;refine cb (b6 7 rfl rfl) ?_;first|apply ce|apply da)|apply ce|refine go0 ?_|(apply a8;rfl)|(intro _;try omega))
  all_goals first|omega|(refine Done.ret rfl (.refl _) trivial ?_ (by omega) (ab _) ⟨?_,rfl,rfl⟩;exact DT;try rfl)
theorem a2l(q:Qu)(h:IQ q)(N:List Int)(S:VB q N)(Y:N.length≤1000):Ej env 29 [.p (.agg (Enc.enc q)),.p (.lst 3 (cells N) N.length),.clo 30 [] []] [] 0 (.lst 106 (cells (F7 q N fun _=>true)) (F7 q N fun _=>true).length):=by
 obtain⟨is,A⟩:∃is:Nat→Bool,is=fun _=>true:=⟨_,rfl⟩
 have K:∀m,m<q.p.notes.length→Ej env 30 ([.p (.int .i64 (m:Int))]++[]) [] 0 (.bool (is m)):=fun m _=>by rw[A];exact b0o m
 rw[← A];have Z:=h.p.notes;have d1:=h.o.Ae;have O:=Xk q.p N is q.o.Ae.length;have P:(F7 q N is).length=q.o.Ae.length:=Cm _ _;rw[P];unfold F7;refine Ej.enter (Af (by decide)) Tryz.func29 rfl (by kernel_rfl) (by simp[Tryz.ntmps29]) ?_
 repeat' (first|(apply ll q.o.Ae.length (⟨0,0⟩:Gj);rfl;rfl;rfl;rfl;rfl;rfl;rfl;omega;decide;decide;rfl)|refine go1 ?_|fail)
 all_goals try omega
 rw[O];apply Ad.EY (N.length) [(2,_),(3,_),(7,_),(18,_),(19,_)] [(0,_)] (fun k r=>(20,.p (.int .i64 (k:Int)))::r) (fun k r=>(1,.vec 106 (cells (Bh (VK q.p N is k) q.o.Ae.length)) q.o.Ae.length false)::r) 2
 ·first|omega|decide
 ·first|omega|decide
 ·exact Ns
 ·exact O9
 ·intro k U
  obtain⟨g1,g2⟩:=S k U;obtain⟨m,e⟩:∃m:Nat,gi N k=(m:Int):=⟨(gi N k).toNat,by omega⟩
  have u:m<q.p.notes.length:=by omega
  have x:=K m u;rw[← e] at x;cases f:is m with
  |false =>
   have g:=iR (p:=q.p) (N:=N) (is:=is) (k:=k) (n:=q.o.Ae.length) (by rw[e,az];exact f);rw[f] at x
   repeat' (first|(apply eO [] x;rfl;rfl;exact .of_eq rfl;exact eA rfl;exact Dp rfl;(repeat(first|exact trivial|refine⟨⟨_,rfl,.of_eq rfl⟩,?_⟩));decide;(intro _ M;simp at M<;>omega);rfl)|refine b9 ?_|refine go1 ?_|refine a7 ?_|(apply a8;rfl)|(apply b5;rfl)|(intro _;try omega))
   all_goals try omega
   all_goals try contradiction
   refine Aj.normal ⟨by first|omega|decide,?_,?_⟩
   ·try(rw[g])
    exact Dh
   ·rw[g]
    exact DT
  |true =>
   have c:=h.p.note m u;obtain⟨j,J⟩:∃j:Nat,(gi q.p.notes m).d=(j:Int):=⟨(gi q.p.notes m).d.toNat,by have:=c.d;omega⟩
   have a:j<q.o.Ae.length:=by have:=c.d;omega
   have X:=h.o.cmp (i:=j) a;have I:=c.k;rw[J,az] at I;obtain⟨z,R⟩:∃z:Nat,(gi q.p.notes m).k=(z:Int):=⟨(gi q.p.notes m).k.toNat,by omega⟩
   have B:z<128:=by omega
   have g:=rY (p:=q.p) (N:=N) (is:=is) (k:=k) a (by rw[e,az];exact f) (by rw[e,az];exact J);rw[e,az,R,az,← jG] at g;have T:(Bh (VK q.p N is k) q.o.Ae.length).length=q.o.Ae.length:=Cm _ _;have F:(gi (Bh (VK q.p N is k) q.o.Ae.length) j).Ok:=by
    rw[Dz _ a];exact U5 (NT h S k (by omega)) _ (ab _)
   have s:=SS [(gi q.p.notes m).k] (by simp) (fun i f=>by
    have:i=0:=by simpa using f
    subst this;show 0≤(gi q.p.notes m).k∧(gi q.p.notes m).k≤127;omega)
   have G:Ul [(gi q.p.notes m).k] [(gi q.p.notes m).k].length=FU ⟨0,0⟩ z:=by
    show FU ⟨0,0⟩ ((gi q.p.notes m).k).toNat=_;rw[R,az]
   rw[G] at s;have C:=Nv (gi (Bh (VK q.p N is k) q.o.Ae.length) j) (FU ⟨0,0⟩ z) F (SK OV B);rw[f] at x;generalize Bh (VK q.p N is k) q.o.Ae.length=V at *;generalize hW:(FU ⟨0,0⟩ z:Gj)=W at *
   repeat' (first|(refine eB 37 ?_;refine c7 (b6 36 rfl rfl) ?_)|apply ce|apply Ad.region|apply ka|apply f9|apply jt|apply BK.normal|apply Bj.normal|apply Ah.nil|apply Ai.nil|apply c9|(apply Ai.bar;decide +kernel)|apply Ai.quiet|(apply eO [] x;rfl;rfl;exact .of_eq rfl;exact eA rfl;exact Dp rfl;(repeat(first|exact trivial|refine⟨⟨_,rfl,.of_eq rfl⟩,?_⟩));decide;(intro _ M;simp at M<;>omega);rfl)|refine a6 s ?_|refine a6 C ?_|(apply dl (l:=q.p.notes) (i:=m);rfl;exact congrArg (fun b=>some (PV.p (.int .i64 b))) e;rfl;omega;rfl)|(apply g9 (l:=V) (i:=j);rfl;rfl;exact congrArg (fun b=>some (PV.p (.int .i64 b))) J;rfl;omega)|(apply li (l:=V) (i:=j);rfl;rfl;omega;rfl)|(apply kz (l:=V) (i:=j) (y:=WO (gi V j) W);rfl;rfl;rfl;trivial;rfl;rfl;rfl;decide;omega)|(apply Aa.assign;rfl)|(apply Aa.move;rfl)|(apply jl;rfl;rfl;omega)|refine a7 ?_|refine b9 ?_|(apply Aa.load;rfl;rfl)|(apply e8;rfl;rfl;rfl)|(apply Aa.alloc;rfl)|refine d9 ?_|refine bi ?_|(apply Aa.extract;rfl;rfl)|(apply a8;rfl)|(apply b8;rfl)|(intro _;try omega))
   all_goals try omega
   all_goals try contradiction
   refine Aj.normal ⟨by first|omega|decide,?_,?_⟩
   ·try(rw[← g])
    exact Dh
   ·rw[← g]
    exact DT
 ·repeat' (first|(refine Ad.at 10 ?_;refine cb (b6 7 rfl rfl) ?_;first|apply ce|apply da)|apply ce|refine go0 ?_|(apply a8;rfl)|(intro _;try omega))
  all_goals first|omega|(refine Done.ret rfl (.refl _) trivial ?_ (by omega) (ab _) ⟨?_,rfl,rfl⟩;exact DT;try rfl)
attribute [local irreducible] Nl
def a9l(y:Nu):Int:=if 0≤y.hn∧y.hn≤10 then if 0≤y.fn∧y.fn≤10 then if 0≤y.hs∧y.hs≤127 then if 0≤y.fs∧y.fs≤127 then 0 else 3 else 3 else 3 else 3
theorem ak(h:y.Ok):a9l y=0:=by
 unfold a9l;rw[if_pos h.hn,if_pos h.fn,if_pos h.hs,if_pos h.fs]
theorem Js(y:Nu):Ak env 33 [.agg (Enc.enc y)] (.p (.int .i64 (a9l y))):=by
 by_cases d:0≤y.hn∧y.hn≤10;all_goals by_cases c:0≤y.fn∧y.fn≤10
 all_goals by_cases b:0≤y.hs∧y.hs≤127
 all_goals by_cases a:0≤y.fs∧y.fs≤127
 all_goals unfold a9l
 all_goals first|rw[if_pos d]|rw[if_neg d]
 all_goals try first|rw[if_pos c]|rw[if_neg c]
 all_goals try first|rw[if_pos b]|rw[if_neg b]
 all_goals try first|rw[if_pos a]|rw[if_neg a]
 all_goals
  refine Ak.enter (Af (by decide)) Tryz.func33 rfl (by kernel_rfl) (by simp[Tryz.ntmps33]) ?_
 all_goals
  repeat' (first|(apply ry;rfl;rfl;rfl;rfl;rfl;decide;rfl)|refine Fh ?_|(apply Ah.guard;rfl;rfl)|(apply rp;rfl;rfl;rfl;rfl;rfl)|(apply Ad.nZ 2)|(apply Nl.zero)|(apply Nl.succ)|(apply km)|refine a7 ?_|(apply ei;rfl)|(apply cn;rfl)|(apply b8;rfl)|(apply c8;rfl)|(intro _;try omega))
 all_goals first|omega|(refine aa ?_;try rfl)
theorem wQ(y:Nu)(d:y.Ok)(s:Gj)(a:s.Ok):Ak env 44 [.agg (Enc.enc y),.agg (Enc.enc s)] (.DK [.p (.bool (decide (En y (CQ s)))),.p (.int .i64 0)]):=by
 have b:=Js y;have h:=ak d;rw[h] at b;have g:=Q9 a.lo a.hi;have f:∀x∈CQ s,0≤x∧x≤127:=fun x e=>by
  obtain⟨n,c,rfl,_⟩:=SQ.1 e;omega
 have c:=jm y (CQ s) (TA s) f;refine Ak.enter (Af (by decide)) Tryz.func44 rfl (by kernel_rfl) (by simp) ?_
 repeat' (first|(refine mc 15 ?_;refine i6 (b6 14 rfl rfl) ?_)|apply Ad.assoc|apply ce|apply da|apply f9|apply Ad.ret|apply Ah.nil|apply Ai.nil|apply c9|(apply Ai.bar;decide +kernel)|apply Ai.quiet|refine a6 b ?_|(apply jz;rfl;rfl;exact g)|refine a6 c ?_|(apply Aa.assign;rfl)|(apply Aa.move;rfl)|refine a7 ?_|(apply Aa.load;rfl;rfl)|(apply Aa.box;rfl;trivial)|(apply cn;rfl))
 all_goals first|omega|(refine aa ?_;try rfl)
def Ot(l:List Gj):Nat→Gj
 |0=>⟨0,0⟩
 |k+1=>WO (Ot l k) (gi l k)
def QU(l:List Gj):Nat→Int
 |0=>0
 |k+1=>QU l k+((CQ (gi l k)).length:Int)
def Qy(y:Nu)(l:List Gj):Prop:=QU l l.length≤y.fn∧wid (CQ (Ot l l.length))≤y.fs
instance (y:Nu) (l:List Gj):Decidable (Qy y l):=inferInstanceAs (Decidable (_∧_))
theorem pK(h:∀i,i<l.length→(gi l i).Ok):∀k,k≤l.length→(Ot l k).Ok
 |0,_=>OV
 |k+1,hk=>c4u (pK h k (by omega)) (h k (by omega))
theorem dV(l:List Gj):∀k,0≤QU l k∧QU l k≤128*k
 |0=>⟨bj _,bj _⟩
 |k+1=>by
  have:=dV l k;have:=TA (gi l k);show 0≤QU l k+((CQ (gi l k)).length:Int)∧QU l k+((CQ (gi l k)).length:Int)≤128*((k+1:Nat):Int);omega
theorem fF(y:Nu)(l:List Gj)(m:l.length≤1000)(h:∀i,i<l.length→(gi l i).Ok):Ak env 38 [.agg (Enc.enc y),.lst 106 (cells l) l.length] (.p (.bool (decide (Qy y l)))):=by
 have c:=pK h l.length (ab _);have j:Bf env 37 [.agg (Enc.enc (Ot l l.length))] 3 (cells (CQ (Ot l l.length))) (CQ (Ot l l.length)).length _:=Q9 c.lo c.hi;have f:=jI (CQ (Ot l l.length)) (TA _) fun x d=>by
  obtain⟨n,a,rfl,_⟩:=SQ.1 d;omega
 have s:=dV l l.length;refine Ak.enter (Af (by decide)) Tryz.func38 rfl (by kernel_rfl) (by simp[Tryz.ntmps38]) ?_
 repeat' (first|refine go1 ?_|fail)
 apply Ad.EY (l.length) [(2,_),(5,_),(9,_),(10,_)] [(0,_)] (fun k r=>(11,.p (.int .i64 (k:Int)))::(6,.p (.int .i64 (QU l k)))::r) (fun k r=>(1,.box 106 ((Enc.enc (Ot l k)).map .p))::r) 2
 ·first|omega|decide
 ·first|omega|decide
 ·exact Ns
 ·exact O9
 ·intro k b
  have g:=Nv (Ot l k) (gi l k) (pK h k (by omega)) (h k b);have o:=dP (gi l k) (h k b);have q:=dV l k;have m:=TA (gi l k)
  repeat' (first|refine a6 g ?_|refine a6 o ?_|refine b9 ?_|refine Fh ?_|refine a7 ?_|(apply a8;rfl)|(intro _;try omega))
  all_goals try omega
  refine Aj.normal ⟨by first|omega|decide,?_,?_⟩
  ·exact Dh
  ·exact DT
 ·have e:decide (Qy y l)=(decide (QU l l.length≤y.fn)&&decide (wid (CQ (Ot l l.length))≤y.fs)):=by
   unfold Qy;exact Bool.decide_and _ _
  rw[e];generalize CQ (Ot l l.length)=M at *;generalize QU l l.length=C at *;generalize wid M=W at *;by_cases a:C≤y.fn
  ·rw[decide_eq_true a,cQ]
   repeat' (first|(refine mc 30 ?_;refine i6 (b6 29 rfl rfl) ?_)|apply ce|apply da|apply jx|apply BK.normal|apply Bj.exit|apply Aj.exit|apply Ad.ret|apply Ah.nil|apply Ai.nil|apply c9|(apply Ai.bar;decide +kernel)|apply Ai.quiet|(apply ox;rfl;rfl)|(apply Ai.guard;rfl;rfl)|(apply jz;rfl;rfl;exact j)|refine a6 f ?_|(apply Aa.assign;rfl)|(apply Aa.move;rfl)|refine a7 ?_|(apply Aa.load;rfl;rfl)|(apply lk;rfl;rfl)|(apply e8;rfl;rfl;rfl)|(apply a8;rfl)|(intro _;try omega))
   all_goals first|omega|(refine aa ?_;try rfl)
  ·rw[decide_eq_false a,dj]
   repeat' (first|refine Fj ?_|(apply Ai.guard;rfl;rfl)|(apply a8;rfl)|(intro _;try omega))
   all_goals first|omega|(refine aa ?_;try rfl)
theorem a4b(y:Nu)(b:y.Ok)(l:List Gj)(c:l.length≤1000)(h:∀i,i<l.length→(gi l i).Ok):Ak env 154 [.agg (Enc.enc y),.lst 106 (cells l) l.length] (.DK [.p (.bool (decide (Qy y l))),.p (.int .i64 0)]):=by
 have a:=Js y;have e:=ak b;rw[e] at a;have d:=fF y l c h;refine Ak.enter (Af (by decide)) Tryz.func154 rfl (by kernel_rfl) (by simp) ?_
 repeat' (first|refine a6 a ?_|refine a6 d ?_|refine go1 ?_|refine a7 ?_|(apply cn;rfl))
 all_goals first|(omega)|(refine aa ?_;try rfl)
theorem b7y:env.O 119=some (UL (Au Tryz.prog 8 BU) (AX Tryz.prog 8 BU) Tryz.f119.ntmps Sm):=by
 rfl
theorem b0t(s:Gj)(d:s.Ok):c4y env 119 Tryz.f119 (Enc.enc s) e (Gz s.lo s.hi):=by
 intro u b m F c q k j l;cases b;cases j with|cons o t =>
 cases t with|cons n t =>
 cases t;cases o;cases n;refine⟨notKey s.lo s.hi,fun i x f r h a p=>⟨i,?_⟩⟩;refine yD (kr:=(notKey s.lo s.hi,Gz s.lo s.hi)) (Z5 p) ?_;have g:=(a c l).trans k;have b1:=d.lo;have b2:=d.hi;unfold Sm;simp only[g];rw[if_pos ⟨⟨by omega,by omega⟩,by omega,by omega⟩];rfl
theorem c3w
 (g:AY env.Γ L e=some (.clo 74 a cs)) (i:evs env.Γ L args.toList=some xs) (b:Tryz.f74.body=some c) (f:(a++xs++cs).length≤Tryz.f74.ntmps)
 (h:Ad env nx c (CS 0 (a++xs++cs)) H nx (AP env.P Tryz.f74.results.toList Q)):Aa env true ⟨dst,.call { callee:=.value e,args:=args,argTypes:=j },ty,pos,af,gd⟩ L H nx Q:=by
 have d:(match Tryz.f74.body with|some c=>IV env.G Tryz.f74 c|none=>false)=true:=by kernel_rfl
 rw[b] at d;exact Aa.inline rfl g i (Af (by decide)) Tryz.func74 b d f h
theorem a2n(s:Gj)(d:s.Ok):Ak env 116 [.agg (Enc.enc s)] (.DK [.p (.int .i64 (gi (CQ s) 0)),.p (.bool (decide (CQ s≠[])))]):=by
 refine Ak.enter (Af (by decide)) Tryz.func116 rfl (by kernel_rfl) (by simp[Tryz.ntmps116]) ?_
 repeat' (first|(apply c3w;rfl;rfl;rfl;exact le_dec rfl)|(apply Aa.makeFunc;rfl;rfl)|refine go1 ?_|(apply AP.ret;rfl))
 all_goals try omega
 refine Ad.a4p (CQ s).length (fun k=>[.int .i64 (gi (CQ s) k)]) (fun k=>[Go.encZ (gi (CQ s) k)]) [(2,.ref 1 0),(3,.ref 2 0)]
  (fun k=>[(1,.box 3 [.p (.int .i64 0)]),(2,.box 4 [.p (.bool false)])]) 3 (fun k=>k=0)
  rfl rfl Tryz.func119 rfl b7y ?_ (fun _ _=>rfl) (fun _ _=>rfl) (fun k _ m F=>.cons (.int _ _) .nil) (by omega) ⟨by omega,?_,?_⟩ ?_ (b0t s d) rfl ?_ ?_
 ·unfold Gz CQ
  refine fI (by simp) fun i c f=>?_
  simp only[List.getElem_map,List.getElem_range];unfold gi;rw[aL] at c;rw[ai c];rfl
 ·exact Dh
 ·exact DT
 ·exact Dh
 ·rintro k b rfl
  have a:CQ s≠[]:=fun e=>by rw[e] at b;simp at b
  rw[decide_eq_true a]
  repeat' (first|refine go1 ?_|fail)
  refine⟨rfl,?_⟩
  repeat' (first|refine Fh ?_|apply j6)
  refine⟨by omega,[(1,.box 3 [.p (.int .i64 (gi (CQ s) 0))]),(2,.box 4 [.p (.bool true)])],?_,?_⟩
  ·exact DT
  ·repeat' (first|apply BK.ret|apply Bj.ret)
   all_goals first|omega|(refine aa ?_;try rfl)
 ·intro h
  have a:CQ s=[]:=aw.1 h;rw[a]
  repeat' (first|refine Fh ?_|fail)
  all_goals first|omega|(refine aa ?_;try rfl)
structure XI where
 d:Int
 k:Int
deriving DecidableEq
instance:Enc XI:={ default:=⟨0,0⟩,enc:=fun x=>[.int .i64 x.d,.int .i64 x.k],size:=2,len:=fun _=>rfl }
def hcK(y:Nu)(K:List Gj):Nat→Bool×Int
 |0=>(true,0)
 |k+1=>if CQ (gi K k)=[] then hcK y K k else((hcK y K k).1&&decide ((hcK y K k).2=0)&&decide (En y (CQ (gi K k))),(hcK y K k).2+1)
theorem a5r(y:Nu)(K:List Gj):∀k,0≤(hcK y K k).2∧(hcK y K k).2≤k
 |0=>⟨bj _,bj _⟩
 |k+1=>by
  have:=a5r y K k;unfold hcK;grind
def Xx(p:Ez)(N l:List Int)(h:Int):Nat→Bool×XI
 |0=>(false,⟨0,0⟩)
 |k+1=>if gi l (gi N k).toNat=h∧((Xx p N l h k).1=false∨(gi p.notes (gi N k).toNat).k<(Xx p N l h k).2.k) then(true,⟨(gi p.notes (gi N k).toNat).d,(gi p.notes (gi N k).toNat).k⟩) else Xx p N l h k
def SE(q:Qu)(N l:List Int)(h:Int):Bool:=(hcK q.y (F7 q N (hasB l h)) (F7 q N (hasB l h)).length).1
theorem Po(q:Qu)(N:List Int)(is:Nat→Bool):(F7 q N is).length=q.o.Ae.length:=Cm _ _
theorem bH(a:IQ q)(c:VB q N)(is:Nat→Bool)(b:d<q.o.Ae.length):(gi (F7 q N is) d).Ok:=by
 unfold F7;rw[Dz _ b];exact U5 (NT a c _ (ab _)) _ (ab _)
theorem Uc(q:Qu)(x:IQ q)(s:qA)(G:VB q s.notes)(F:s.notes.length≤1000)(l:List Int)(h:Int)(P:l.length=q.p.notes.length):Ak env 64 [.agg (Enc.enc q),.agg (Enc.enc s),.lst 3 (cells l) l.length,.int .i64 h]
 (.DK [.p (.agg (Enc.enc (Xx q.p s.notes l h s.notes.length).2)),.p (.bool (Xx q.p s.notes l h s.notes.length).1),.p (.bool (SE q s.notes l h))]):=by
 have T:=x.p.notes;have X:=x.o.Ae;have j:=a4j q x s.notes G F l h P;have I:=Po q s.notes (hasB l h);have g:=fun d R=>bH x G (hasB l h) (d:=d) R
 rw[← I] at g;unfold SE;generalize F7 q s.notes (hasB l h)=K at *;refine Ak.enter (Af (by decide)) Tryz.func64 rfl (by kernel_rfl) (by simp[Tryz.ntmps64]) ?_
 repeat' (first|(apply eO [2,3] j;rfl;rfl;exact .of_eq rfl;exact eA rfl;exact Dp rfl;(repeat(first|exact trivial|refine⟨⟨_,rfl,.of_eq rfl⟩,?_⟩));decide;(intro _ S;simp at S<;>omega);rfl)|(apply Aa.makeFunc;rfl;rfl)|refine go1 ?_|fail)
 all_goals try omega
 apply Ad.EY (K.length) [(4,_),(5,_),(6,_),(7,_),(8,_),(9,_),(25,_),(26,_)] [(0,_),(1,_),(2,_),(3,_),(4,_)] (fun k r=>(27,.p (.int .i64 (k:Int)))::(10,.p (.bool (hcK q.y K k).1))::(11,.p (.int .i64 (hcK q.y K k).2))::r) (fun k r=>r) 5
 ·first|omega|decide
 ·first|omega|decide
 ·exact Ns
 ·exact O9
 ·intro k j
  have f:=a2n (gi K k) (g k j);have B:=wQ q.y x.y (gi K k) (g k j);have U:=a5r q.y K k;have u:hcK q.y K (k+1)=if CQ (gi K k)=[] then hcK q.y K k else((hcK q.y K k).1&&decide ((hcK q.y K k).2=0)&&decide (En q.y (CQ (gi K k))),(hcK q.y K k).2+1):=rfl
  rw[u];clear u;generalize hcK q.y K k=r at *;obtain⟨c,n⟩:=r;by_cases A:CQ (gi K k)=[]
  ·rw[if_pos A]
   rw[decide_eq_false (fun e=>e A)] at f;generalize gi (CQ (gi K k)) 0=z at *
   repeat' (first|refine a6 f ?_|refine b9 ?_|refine Fh ?_|refine a7 ?_|(apply ei;rfl)|(apply a8;rfl)|(intro _;try omega))
   all_goals try omega
   refine Aj.normal ⟨by first|omega|decide,?_,?_⟩
   ·exact Dh
   ·exact DT
  ·rw[if_neg A]
   rw[decide_eq_true A] at f;generalize gi (CQ (gi K k)) 0=z at *;generalize decide (En q.y (CQ (gi K k)))=w at *;cases c;all_goals by_cases M:n=0
   all_goals cases w
   all_goals first|rw[decide_eq_true M]|rw[decide_eq_false M]
   all_goals
    repeat' (first|refine a6 f ?_|refine a6 B ?_|refine b9 ?_|refine Fh ?_|(apply Ah.guard;rfl;rfl)|refine a7 ?_|(apply cn;rfl)|(apply a8;rfl)|(intro _;try omega))
   all_goals try omega
   all_goals try contradiction
   all_goals
    refine Aj.normal ⟨by first|omega|decide,?_,?_⟩
    ·exact Dh
    ·exact DT
 ·repeat' (first|refine Fj ?_|(apply a8;rfl)|(intro _;try omega))
  all_goals try omega
  apply Ad.EY (s.notes.length) [(4,_),(6,_),(7,_),(8,_),(10,_),(57,_),(58,_)] [(0,_),(1,_),(2,_),(3,_)] (fun k r=>(59,.p (.int .i64 (k:Int)))::(9,.p (.bool (Xx q.p s.notes l h k).1))::r) (fun k r=>(4,.box 87 ((Enc.enc (Xx q.p s.notes l h k).2).map .p))::r) 5
  ·first|omega|decide
  ·first|omega|decide
  ·exact Ns
  ·exact O9
  ·intro k j
   obtain⟨W,V⟩:=G k j;obtain⟨m,C⟩:∃m:Nat,gi s.notes k=(m:Int):=⟨(gi s.notes k).toNat,by omega⟩
   have O:m<q.p.notes.length:=by omega
   have u:Xx q.p s.notes l h (k+1)=if gi l (gi s.notes k).toNat=h∧((Xx q.p s.notes l h k).1=false∨(gi q.p.notes (gi s.notes k).toNat).k<(Xx q.p s.notes l h k).2.k) then(true,⟨(gi q.p.notes (gi s.notes k).toNat).d,(gi q.p.notes (gi s.notes k).toNat).k⟩) else Xx q.p s.notes l h k:=rfl
   rw[C,az] at u;rw[u];clear u;generalize Xx q.p s.notes l h k=r at *;obtain⟨c,a⟩:=r;by_cases J:gi l m=h;all_goals cases c
   all_goals by_cases N:(gi q.p.notes m).k<a.k
   all_goals first|rw[if_pos (And.intro J (Or.inl rfl))]|rw[if_pos (And.intro J (Or.inr N))]|rw[if_neg (fun e=>J e.1)]|rw[if_neg (fun e=>e.2.elim (fun e=>nomatch e) N)]
   all_goals
    repeat' (first|(apply dl (l:=q.p.notes) (i:=m);rfl;exact congrArg (fun b=>some (PV.p (.int .i64 b))) C;rfl;omega;rfl)|(apply dl (l:=l) (i:=m);rfl;exact congrArg (fun b=>some (PV.p (.int .i64 b))) C;rfl;omega;rfl)|refine b9 ?_|refine KP ?_|(apply Ai.guard;rfl;rfl)|(apply na;rfl;rfl)|refine a7 ?_|refine b7 ?_|(apply a8;rfl)|(apply b8;rfl)|(apply b5;rfl)|(apply c8;rfl)|(intro _;try omega))
   all_goals try omega
   all_goals try contradiction
   all_goals
    refine Aj.normal ⟨by first|omega|decide,?_,?_⟩
    ·exact Dh
    ·exact DT
  ·repeat' (first|refine Fj ?_|(apply a8;rfl)|(intro _;try omega))
   all_goals first|omega|(refine aa ?_;try rfl)
end Go.Proofs.YthlffjlbidibdaaGreatDoor
namespace Go.Vm
open Go.Am
variable {E:Env}{L:Frame}{H:Heap}{nx:Nat}{Q:PV→Heap→Nat→Prop}{dst:Option Tmp}{ty:TypeId}{pos:String}{af:Array Edge}{gd:Option (Nat×Bool)}{w:Bool}
theorem lf(j:Ej E g ac [] 0 x)(i:AY E.Γ L c=some (.clo g b cs))(k:evs E.Γ L args.toList=some d)
 (a:OE (b++d++cs) (CZ.rn (rho [] nx) ac)) (f:CZ.under 0 ac) (q:Q (.p x) H nx):Aa E w ⟨dst,.call { callee:=.value c,args:=args,argTypes:=o },ty,pos,af,gd⟩ L H nx Q :=
 nj (ns:=[]) (Hc:=[]) i k a f trivial trivial cy (by simp) (fun _=>rfl) j
  (fun r s e h=>by
   obtain⟨n,m,l⟩:=h;subst n;subst m;subst l;rw[TV];exact q)
end Go.Vm
namespace Go.Proofs.YthlffjlbidibdaaGreatDoor
open Go Go.Am Go.Vm Go.Pie
attribute [local irreducible] Aa Ah Ai Ad AL Ak Bf BK Bj Aj Vm.Done Bv AP Nl
attribute [local irreducible] Cb Bg D5 DU EF AV CB
def wO(q:Qu)(N:List Int):Bool:=decide (Qy q.y (F7 q N (FK q)))
def J4(q:Qu)(N l:List Int):Bool:=SE q N l 0&&SE q N l 1&&wO q N
theorem a0k(q:Qu)(b:IQ q)(s:qA)(f:VB q s.notes)(c:s.notes.length≤1000):Ak env 123 [.agg (Enc.enc q),.agg (Enc.enc s)] (.p (.bool (wO q s.notes))):=by
 have j:=b.o.Ae;have g:=a0l q b s.notes f c;have e:=Po q s.notes (FK q);have a:=fun d i=>bH b f (FK q) (d:=d) i
 rw[← e] at a;have h:=a4b q.y b.y (F7 q s.notes (FK q)) (by omega) a;unfold wO;generalize F7 q s.notes (FK q)=K at *;refine Ak.enter (Af (by decide)) Tryz.func123 rfl (by kernel_rfl) (by simp[Tryz.ntmps123]) ?_
 repeat' (first|refine a6 h ?_|(apply lf g;rfl;rfl;exact .of_eq rfl;exact eA rfl)|(apply Aa.makeFunc;rfl;rfl)|refine KP ?_|fail)
 all_goals first|omega|(refine aa ?_;try rfl)
theorem jO(q:Qu)(b:IQ q)(s:qA)(c:VB q s.notes)(a:s.notes.length≤1000)(l:List Int)(d:l.length=q.p.notes.length):Ak env 80 [.agg (Enc.enc q),.agg (Enc.enc s),.lst 3 (cells l) l.length] (.p (.bool (J4 q s.notes l))):=by
 have g:=Uc q b s c a l 0 d;have f:=Uc q b s c a l 1 d;have e:=a0k q b s c a;unfold J4;generalize SE q s.notes l 0=c0 at *;generalize SE q s.notes l 1=c1 at *;generalize wO q s.notes=c2 at *;generalize Xx q.p s.notes l 0 s.notes.length=a0 at *;generalize Xx q.p s.notes l 1 s.notes.length=a1 at *;cases c0<;>cases c1<;>cases c2
 all_goals
  refine Ak.enter (Af (by decide)) Tryz.func80 rfl (by kernel_rfl) (by simp[Tryz.ntmps80]) ?_
 all_goals
  repeat' (first|refine a6 g ?_|refine a6 f ?_|refine a6 e ?_|refine Fh ?_|fail)
 all_goals first|omega|contradiction|(refine aa ?_;try rfl)
def yP(q:Qu):HB:=.box 49 ((Enc.enc q).map .p)
def slB(s:qA):HB:=.box 62 ((Enc.enc s).map .p)
theorem jM(q:Qu)(b:IQ q)(s:qA)(f:VB q s.notes)(a:s.notes.length≤1000)(l:List Int)(e:l.length=q.p.notes.length):Ej env 79 ([.p (.lst 3 (cells l) l.length)]++[.ref 0 0,.ref 1 0]) [(0,yP q),(1,slB s)] 2 (.bool (!J4 q s.notes l)):=by
 have d:=jO q b s f a l e;unfold yP slB;generalize J4 q s.notes l=c at *;refine Ej.enter (Af (by decide)) Tryz.func79 rfl (by kernel_rfl) (by simp[Tryz.ntmps79]) ?_
 repeat' (first|refine a6 d ?_|refine Fh ?_|fail)
 all_goals first|omega|(refine Done.ret rfl (.refl _) trivial ?_ (by omega) (ab _) ⟨?_,rfl,rfl⟩;exact DT;try rfl)
end Go.Proofs.YthlffjlbidibdaaGreatDoor
namespace Go.Vm
open Go.Am
variable {E:Env}{L:Frame}{H:Heap}{nx:Nat}{Q:PV→Heap→Nat→Prop}{w:Bool}
variable {dst:Option Tmp}{ty:TypeId}{pos:String}{af:Array Edge}{gd:Option (Nat×Bool)}
theorem mi(V:AY E.Γ L x=some (.vec b n off len))(J:hget H b=some (.vec e cs n z))(hn:0<n)(W:E.P.underlying t=some (.slice e))(G:E.P.info? e=some h)(A:h.size=sz)
 (i:match r with|none=>a=0|some o=>∃k,AY E.Γ L o=some (.p (.int k (a:Int)))) (l:match s with|none=>c=len|some o=>∃k,AY E.Γ L o=some (.p (.int k (c:Int)))) (K:a≤c) (I:c≤len)
 (q:Q (.vec b n (off+a*sz) (c-a)) H nx):Aa E w ⟨dst,.slice t x r s none,ty,pos,af,gd⟩ L H nx Q :=
 Aa.quiet q fun m F σ R u M=>by
  have O:bnd 0 (r.map (ev R))=some a:=by
   cases r with
   |none=>rw[i];rfl
   |some o =>
    obtain⟨k,C⟩:=i;simp only[Option.map_some,CV u M C,bnd];rfl
  have N:bnd len (s.map (ev R))=some c:=by
   cases s with
   |none=>rw[l];rfl
   |some o =>
    obtain⟨k,C⟩:=l;simp only[Option.map_some,CV u M C,bnd];rfl
  have f:=IY u M V J;obtain⟨B,X⟩:=u.hp b _ J;rcases X with⟨y,S,U⟩|⟨d,g,Z,y,S,U,T,r5,r6,r7⟩
  ·omega
  rw[y] at f;simp only[Gi] at f;refine⟨.slice (some ⟨d,off+a*sz,none⟩) (c-a) g,fun _=>?_,.vec B rfl fun j Y=>?_⟩
  ·simp only[BX,F5,f,aslice,Option.isSome_none,Option.map_none,Bool.false_and,Bool.false_eq_true,if_false,W,G,O,N,T,K,I,S,and_self,if_true,Option.map_some,A]
  ·simp only[htag,J,HB.tag,Option.map_some,Option.some.injEq,Tg.vec.injEq] at Y
   refine⟨by omega,fun _=>?_⟩;rw[y];rfl
theorem mO(A:Ctx E.Γ m F σ H nx)(y:hget H b=some (.vec e cs n z))(G:0<n)(j:σ b=.slice (some ⟨c,0,none⟩) n g)(r:c<m.size)(o:¬ F c)(B:m.get c=.cells vs e g false)(q:Du m F cs vs)(p:vs.all BQ=true)
 (u:Du m F i l) (x:l.all BQ=true) :
 Ctx E.Γ (m.put c (.cells (splice vs off l) e g false)) F (upd σ b (σ b)) (hput H b (.vec e (CG cs off i) n z)) nx∧Step m F σ H nx (m.put c (.cells (splice vs off l) e g false)) F (upd σ b (σ b)) (hput H b (.vec e (CG cs off i) n z)) nx:=by
 have a:∀d,c≠d→(m.put c (.cells (splice vs off l) e g false)).get d=m.get d:=fun d f=>by rw[cg,if_neg f]
 exact A.change (m':=m.put c (.cells (splice vs off l) e g false)) (x':=.vec e (CG cs off i) n z) (s':=σ b) y (ab _) (fun _=>rfl) (ab _)
  (fun d _ f=>a d fun e=>f (by rw[j,e];rfl)) (fun k k1 C s=>by
   have:=s c (by rw[j];rfl);simp only[Mem.put];omega) (fun d f=>.inl f) (by
   refine .inr ⟨c,g,splice vs off l,j,r,o,by rw[cg,if_pos rfl],?_,Ky _ p x,fun h=>by omega⟩;exact(lm off q u).mono (fun d f=>⟨f,a d fun e=>o (e▸f)⟩))
def SlT(Γ:Nat→Option (List Value×TypeId))(L:Frame)(H:Heap)(nx:Nat)(x:Operand)(sz n:Nat)(xs:List FV)(k:Nat):Prop :=
 ∀m F σ t,Ctx Γ m F σ H nx→RL m F (htag H) σ nx L t→lenOf (ev t x)=some n∧∃l,BH m sz k (ev t x)=some l∧Du m F xs l∧l.all BQ=true
theorem SlT.lst{sz n k:Nat}(h:AY Γ L x=some (.p (.lst e xs n)))(l:xs.length=n*sz)(a:k≤n)(d:ys=xs.take (k*sz)):SlT Γ L H nx x sz n ys k:=fun m F σ t u s=>by
 subst d;have:=Bz u s h;generalize ev t x=v at this;cases this with
 |p h =>
  cases h with
  |nil=>obtain rfl:k=0:=by omega
        exact⟨rfl,[],rfl,by rw[ed,gw];exact .nil,rfl⟩
  |room=>obtain rfl:k=0:=by omega
         exact⟨rfl,[],rfl,by rw[ed,gw];exact .nil,rfl⟩
  |lst z j f i q =>
   rename_i b o g y c ro;refine⟨rfl,c.take (k*sz),?_,Du.take _ i,OL q _⟩;have r:=jv (k:=k*sz) f;rw[l,cD (bk sz a)] at r;simp only[BH,if_pos a,Mem.Es,j];simp only[MK,Option.getD_some,if_true];omega
theorem SlT.vec(h:AY Γ L x=some (.vec b n off len))(p:hget H b=some (.vec e cs n z))(I:0<n)(J:off+len*sz≤cs.length)(o:k≤len)(A:ys=(cs.drop off).take (k*sz)) :
 SlT Γ L H nx x sz len ys k:=fun m F σ t q C=>by
 subst A;have a:=IY q C h p;obtain⟨_,B⟩:=q.hp b _ p;rcases B with⟨j,y,u⟩|⟨c,g,f,j,y,u,s,i,r,G⟩
 ·omega
 ·rw[j] at a
  rw[a];have l:=i.length;have K:=bk sz o;have d:k*sz≤(f.drop off).length:=by grind
  refine⟨rfl,(f.drop off).take (k*sz),?_,Du.take _ (Du.drop off i),OL (JQ r _) _⟩;simp only[BH,if_pos o,Mem.Es,s];simp only[MK,Option.getD_some,if_true,takeN,if_pos d]
theorem Aa.copy{b n off len k N:Nat}(hd:AY E.Γ L d=some (.vec b n off len))(A:hget H b=some (.vec e cs n z))(Y:0<n)
 (y:E.P.underlying O=some (.slice e)) (hi:E.P.info? e=some i) (s:0<i.size) (W:SlT E.Γ L H nx x i.size N xs k) (hk:k=min N len) (h0:0<k) (U:xs.length=k*i.size) (hl:off+k*i.size≤cs.length) (q:Q (.p (.int .i64 (k:Int))) (hput H b (.vec e (CG cs off xs) n z)) nx) :
 Aa E true ⟨dst,.call { callee:=.builtin .copy,args:=#[d,x],argTypes:=#[O,R] },ty,pos,af,gd⟩ L H nx Q:=by
 intro m F σ t j M;have a:=IY j M hd A;obtain⟨r,l,V,f,o⟩:=W m F σ t j M;obtain⟨Z,X⟩:=j.hp b _ A;rcases X with⟨J,I,G⟩|⟨c,g,S,J,I,G,C,B,T,r7⟩
 ·omega
 simp only[Gi] at a;have K:=f.length;have u:=B.length;obtain⟨d1,d2⟩:=mO (E:=E) (off:=off) j A Y J I G C B T f o;refine GX.op (v:=.int .i64 (k:Int)) (m':=m.put c (.cells (splice S off l) e g false)) (fun _=>?_) ⟨_,_,_,F,_,q,d1,.p (.int _ _),d2,fun h=>by cases h⟩;have hp:=dy h0 s;simp only[BX,F5,kU,List.map_toArray,List.map_cons,List.map_nil,List.getElem?_toArray,List.getElem?_cons_zero,List.getElem?_cons_succ,a,y,r,hi];simp only[Gm,C,MK,Option.getD_some,beq_self_eq_true,Bool.true_and];grind
theorem Aa.clear{b n off len:Nat}(S:AY E.Γ L d=some (.vec b n off len))(r:hget H b=some (.vec e cs n z))(N:0<n)(U:0<len)
 (p:E.P.underlying G=some (.slice e)) (R:E.P.info? e=some i) (C:Ci E.P e=some zs) (j:zs.length=i.size∧0<i.size) (Z:off+len*i.size≤cs.length) (q:Q (.DK []) (hput H b (.vec e (CG cs off ((AO zs len).map Iw)) n z)) nx) :
 Aa E true ⟨none,.call { callee:=.builtin .clear,args:=#[d],argTypes:=#[G] },ty,pos,af,gd⟩ L H nx Q:=by
 intro m F σ t s T;have a:=IY s T S r;obtain⟨O,M⟩:=s.hp b _ r;rcases M with⟨B,A,y⟩|⟨c,g,I,B,A,y,x,u,J,Y⟩
 ·omega
 simp only[Gi] at a;have f:zs.all Am.plainCell=true:=by
  obtain⟨_,X,_,_,_,h⟩:=BM C;exact h
 have l:Du m F ((AO zs len).map Iw) (AO zs len):=Jl (J7 f len);have k:(AO zs len).all BQ=true:=Dq (J7 f len);have o:=u.length;have K:=Fa zs len;obtain⟨W,V⟩:=mO (E:=E) (off:=off) s r N B A y x u J l k;refine GX.op (v:=.tuple #[]) (m':=m.put c (.cells (splice I off (AO zs len)) e g false)) (fun _=>?_) ⟨_,_,_,F,_,q,W,.DK .nil,V,fun h=>by cases h⟩;have hp:=dy U j.2;simp only[BX,F5,YA,List.map_toArray,List.map_cons,List.map_nil,List.getElem?_toArray,List.getElem?_cons_zero,a,p,R,C];simp only[Gm,x,MK,Option.getD_some,beq_self_eq_true,Bool.true_and];grind
def Tj:Code→Option Nat
 | .region n _ _=>some n
 | .seq a b=>match Tj a with
  |some n=>some n
  |none=>Tj b
 | .block _ b=>Tj b
 | .loop b=>Tj b
 | .scope b=>Tj b
 |_=>none
def Oa(r:Nat):Code→Option Code
 | .loop b=>match Tj b with
  |some n=>match Nat.beq n r with
   |true=>some (.loop b)
   |false=>Oa r b
  |none=>Oa r b
 | .seq a b=>match Oa r a with
  |some c=>some c
  |none=>Oa r b
 | .cond _ a b=>match Oa r a with
  |some c=>some c
  |none=>Oa r b
 | .block _ b=>Oa r b
 | .scope b=>Oa r b
 | .rangeFunc _ _ _ b=>Oa r b
 |_=>none
def d6y(fn:Func)(r:Nat):Code:=match fn.body with
 |some c=>match Oa r c with
  |some c=>c
  |none=>.skip
 |none=>.skip
theorem dG:∀(r cs:List α) (o:Nat),o+r.length≤cs.length→CG cs o r=cs.take o++r++cs.drop (o+r.length)
 |[],cs,o,h=>by simp[CG]
 |a::r,cs,o,h=>by
  have b:=dG r (cs.set o a) (o+1) (by grind);simp only[CG];rw[b];have d:(cs.set o a).take (o+1)=cs.take o++[a]:=by
   rw[List.take_succ_eq_append_getElem (by grind)];rw[gv (by omega)];simp
  have c:(cs.set o a).drop (o+1+r.length)=cs.drop (o+(r.length+1)):=by
   rw[ja (by omega)];grind
  grind
theorem VU{α:Type}[Enc α](l r:List α)(i:Nat)(h:i+r.length≤l.length):CG (cells l) (i*Enc.size α) (cells r)=cells (l.take i++r++l.drop (i+r.length)):=by
 rw[dG _ _ _ (by rw[BD,BD,← cL];exact bk _ h),BD,← cL,I8,cells_drop',← ET,← ET]
end Go.Vm
