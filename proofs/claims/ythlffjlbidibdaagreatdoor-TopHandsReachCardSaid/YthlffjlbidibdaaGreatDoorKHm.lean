/-
  Texts of a proof, merged (PieG, OrKa, Vm43, PieH, PieI, Pop, Vm39, Vm44, HanA). Conditions: in each statement.
-/
import Derived.Test.YthlffjlbidibdaaGreatDoorKHl
set_option linter.unusedSimpArgs false
set_option autoImplicit true
set_option relaxedAutoImplicit true
set_option linter.unusedVariables false
set_option linter.unusedSectionVars false
set_option maxRecDepth 100000
set_option maxHeartbeats 8000000
abbrev az:=@Int.toNat_natCast
abbrev du:=@Nat.and_two_pow_sub_one_eq_mod
abbrev dx:=@List.nodup_cons
abbrev en:=@Nat.pow_lt_pow_right
abbrev fk:=@List.mem_mergeSort
abbrev ft:=@Nat.or_lt_two_pow
abbrev fu:=@List.Pairwise.map
abbrev gP:=@Classical.byContradiction
abbrev iz:=@List.length_mergeSort
abbrev iX:=@List.replicate_succ
namespace Go.Proofs.YthlffjlbidibdaaGreatDoor
open Go Go.Am Go.Vm Go.Pie
attribute [local irreducible] Aa Ah Ai Ad AL Ak Bf BK Bj Aj Vm.Done Bv AP
attribute [local irreducible] Cb Bg D5 DU EF AV
def Xv(p:Ez)(t:Int)(i:Nat):Bool:=decide ((gi p.notes i).s≤t)&&decide (t<(gi p.notes i).e)
def La(p:Ez)(t:Int):Nat→List Int
 |0=>[]
 |k+1=>if Xv p t k=true then La p t k++[(k:Int)] else La p t k
def snd(p:Ez)(t:Int):List Int:=La p t p.notes.length
theorem OM(p:Ez)(t:Int):∀k,(La p t k).length≤k
 |0=>ab _
 |k+1=>by
  have:=OM p t k;unfold La;grind
theorem YQ(p:Ez)(g:UM p)(t:Int):Bf env 22 [.agg (Enc.enc p),.int .i64 t] 3 (cells (snd p t)) (snd p t).length true:=by
 refine Bf.enter (Af (by decide)) Tryz.func22 rfl (by kernel_rfl) (by simp[Tryz.ntmps22]) ?_;have b1:=g.notes
 repeat' (first|refine go1 ?_|fail)
 all_goals try omega
 refine cb (iD 5 3 rfl) ?_;apply Ad.EY (p.notes.length) [(1,_),(9,_),(10,_)] [(0,_)] (fun k r=>(11,.p (.int .i64 (k:Int)))::(5,.vec 1 (La p t k).length 0 (La p t k).length)::r) (fun k r=>(1,.vec 3 (cells (La p t k)) (La p t k).length true)::r) 2
 ·first|omega|decide
 ·first|omega|decide
 ·exact Ns
 ·exact O9
 ·intro k m
  have j:=OM p t k;have b:La p t (k+1)=if Xv p t k=true then La p t k++[(k:Int)] else La p t k:=rfl
  by_cases f:(gi p.notes k).s≤t∧t<(gi p.notes k).e
  ·have d:Xv p t k=true:=by unfold Xv;rw[decide_eq_true f.1,decide_eq_true f.2];rfl
   rw[if_pos d] at b;have c:(La p t (k+1)).length=(La p t k).length+1:=by rw[b];simp
   repeat' (first|refine d7 (a:=(k:Int)) ?_|refine b9 ?_|refine Fh ?_|(apply Ah.guard;rfl;rfl)|refine a7 ?_|refine bi ?_|(apply a8;rfl)|(apply c8;rfl)|(intro _;try omega))
   all_goals try omega
   refine Aj.normal ⟨by first|omega|decide,?_,?_⟩
   ·try(first|rw[c,b]|rw[c])
    exact Dh
   ·first|rw[c,b]|rw[c]
    exact DT
  ·have d:¬ Xv p t k=true:=by
    unfold Xv;intro h;rw[cx,decide_eq_true_iff,decide_eq_true_iff] at h;exact f h
   rw[if_neg d] at b
   repeat' (first|refine b9 ?_|refine Fj ?_|(apply Ah.guard;rfl;rfl)|(apply a8;rfl)|(apply b5;rfl)|(apply c8;rfl)|(intro _;try omega))
   all_goals try omega
   all_goals
    refine Aj.normal ⟨by first|omega|decide,?_,?_⟩
    ·try(rw[b])
     exact Dh
    ·rw[b]
     exact DT
 ·repeat' (first|refine Fj ?_|(apply a8;rfl)|(intro _;try omega))
  all_goals first|omega|exact Bv.ret rfl rfl rfl rfl
def bQ(p:Ez)(t:Int):Nat→Int
 |0=>-1
 |k+1=>if gi p.bars (gi p.sets k).bar.toNat≤t then(k:Int) else bQ p t k
def QK(p:Ez)(t:Int):Int:=bQ p t p.sets.length
theorem fD(p:Ez)(t:Int):∀k,-1≤bQ p t k∧bQ p t k<k
 |0=>by simp[bQ]
 |k+1=>by
  have:=fD p t k;unfold bQ;split<;>omega
theorem Y1(h:XM o p)(t:Int):Ak env 130 [.agg (Enc.enc p),.int .i64 t] (.p (.int .i64 (QK p t))):=by
 have b1:=h.sets;have b2:=h.bars;refine Ak.enter (Af (by decide)) Tryz.func130 rfl (by kernel_rfl) (by simp[Tryz.ntmps130]) ?_
 repeat' (first|refine go1 ?_|fail)
 all_goals try omega
 apply Ad.EY (p.sets.length) [(1,_),(2,_),(9,_),(10,_)] [(0,_)] (fun k r=>(11,.p (.int .i64 (k:Int)))::(5,.p (.int .i64 (bQ p t k)))::r) (fun k r=>r) 1
 ·first|omega|decide
 ·first|omega|decide
 ·exact Ns
 ·exact O9
 ·intro k d
  obtain⟨j,g,f⟩:=h.set k d;have e:(gi p.sets k).bar=((gi p.sets k).bar.toNat:Int):=by omega
  have a:bQ p t (k+1)=if gi p.bars (gi p.sets k).bar.toNat≤t then(k:Int) else bQ p t k:=rfl
  by_cases c:gi p.bars (gi p.sets k).bar.toNat≤t;all_goals first|rw[if_pos c] at a|rw[if_neg c] at a
  all_goals
   repeat' (first|(apply dl (l:=p.bars) (i:=(gi p.sets k).bar.toNat);rfl;exact congrArg (fun b=>some (PV.p (.int .i64 b))) e;rfl;omega;rfl)|refine b9 ?_|refine Fh ?_|refine a7 ?_|(apply a8;rfl)|(apply c8;rfl)|(intro _;try omega))
  all_goals try omega
  all_goals
   refine Aj.normal ⟨by first|omega|decide,?_,?_⟩
   ·try(first|rw[a]|skip)
    exact Dh
   ·first|rw[a]|skip
    exact DT
 ·repeat' (first|refine Fj ?_|(apply a8;rfl)|(intro _;try omega))
  all_goals first|omega|(refine aa ?_;try rfl)
theorem RU(r:Rgs)(c:0<r.stops.length)(b:r.stops.length<1000000):Ak env 132 [.agg (Enc.enc r)] (.p (.agg (Enc.enc r))):=by
 have a:=rE r.stops c b;refine Ak.enter (Af (by decide)) Tryz.func132 rfl (by kernel_rfl) (by simp) ?_
 repeat' (first|(refine eB 6 ?_;refine c7 (b6 5 rfl rfl) ?_)|apply ce|apply Ad.ret|apply Ah.nil|apply c9|(apply jz;rfl;rfl;exact a)|(apply Aa.load;rfl;rfl)|(apply e8;rfl;rfl;rfl)|(apply Aa.box;rfl;trivial)|(apply Aa.alloc;rfl)|refine d9 ?_|fail)
 all_goals first|(omega)|contradiction|(refine aa ?_;try rfl)
theorem a3f(o:FZ)(a:SA o):Ak env 131 [.agg (Enc.enc o)] (.DK [.p (.agg (Enc.enc (b6g o))),.p (.int .i64 0)]):=by
 have b:=QX o a.sm;rw[a.err] at b;have d:=a.Ae;have c:(List.replicate o.Ae.length 0:List Nat).length=o.Ae.length:=bS;have e:Enc.enc (b6g o)=[.lst 104 (cells (List.replicate o.Ae.length (0:Nat))) o.Ae.length,.int .u64 0,.int .u64 0]:=by
  show [FV.lst 104 (cells (List.replicate o.Ae.length (0:Nat))) (List.replicate o.Ae.length (0:Nat)).length,.int .u64 0,.int .u64 0]=_;rw[c]
 rw[e];refine Ak.enter (Af (by decide)) Tryz.func131 rfl (by kernel_rfl) (by simp[Tryz.ntmps131]) ?_
 repeat' (first|(refine eB 15 ?_;refine c7 (b6 14 rfl rfl) ?_)|apply Ad.assoc|apply ce|apply f9|apply Ad.ret|apply Ah.nil|apply c9|refine a6 b ?_|(apply ll o.Ae.length (0:Nat);rfl;rfl;rfl;rfl;rfl;rfl;rfl;omega;decide;decide;rfl)|(apply Aa.assign;rfl)|(apply Aa.move;rfl)|refine a7 ?_|(apply Aa.load;rfl;rfl)|(apply kb;rfl;rfl)|(apply e8;rfl;rfl;rfl)|(apply Aa.box;rfl;trivial)|(apply Aa.alloc;rfl)|refine d9 ?_|refine b7 ?_|(apply cn;rfl))
 all_goals first|omega|contradiction|(refine aa ?_;try rfl)
def c4a(o:FZ)(p:Ez)(t:Int):Rgs:=if QK p t<0 then b6g o else(gi p.sets (QK p t).toNat).reg
theorem oJ(h:Vw o r=0):r.stops.length=o.Ae.length:=gP fun a=>by rw[x9 a] at h;cases h
theorem YT(c:SA o)(h:XM o p)(t:Int)(n:atE o p t=0):Ak env 89 [.agg (Enc.enc o),.agg (Enc.enc p),.int .i64 t] (.DK [.p (.agg (Enc.enc (c4a o p t))),.p (.int .i64 (QK p t)),.p (.int .i64 0)]):=by
 have d:=fO o p c.sm h.sm t;rw[n] at d;have e:=Y1 h t;have m:=a3f o c;have k:=fD p t p.sets.length;rw[show bQ p t p.sets.length=QK p t from rfl] at k;have a:=h.set (QK p t).toNat;have j:=h.sm.reg (QK p t).toNat;unfold c4a;generalize QK p t=W at *;have y:=c.Ae;by_cases g:W<0
 ·obtain rfl:W=-1:=by omega
  rw[if_pos g];refine Ak.enter (Af (by decide)) Tryz.func89 rfl (by kernel_rfl) (by simp[Tryz.ntmps89]) ?_
  repeat' (first|refine a6 d ?_|refine a6 e ?_|refine a6 m ?_|refine Fh ?_|refine a7 ?_|(apply ei;rfl)|(apply cn;rfl))
  all_goals first|omega|contradiction|(refine aa ?_;try rfl)
 ·rw[if_neg g]
  obtain⟨x,u,s⟩:=a (by omega);have f:=oJ s;have q:=RU (gi p.sets W.toNat).reg (by omega) (by omega);have r:W=(W.toNat:Int):=by omega
  refine Ak.enter (Af (by decide)) Tryz.func89 rfl (by kernel_rfl) (by simp[Tryz.ntmps89]) ?_
  repeat' (first|refine a6 d ?_|refine a6 e ?_|refine a6 q ?_|(apply dl (l:=p.sets) (i:=W.toNat);rfl;exact congrArg (fun b=>some (PV.p (.int .i64 b))) r;rfl;omega;rfl)|refine KP ?_|refine a7 ?_|(apply cn;rfl)|(apply a8;rfl)|(intro _;try omega))
  all_goals first|omega|contradiction|(refine aa ?_;try rfl)
end Go.Proofs.YthlffjlbidibdaaGreatDoor
namespace Go.Proofs.YthlffjlbidibdaaGreatDoor
open Go Go.Am Go.Vm
attribute [local irreducible] Aa Ah Ai Ad AL Ak Bf BK Bj Aj Vm.Done Bv AP
structure Gj where
 lo:Nat
 hi:Nat
instance:Enc Gj:={ default:=⟨0,0⟩,enc:=fun x=>[.int .u64 (x.lo:Int),.int .u64 (x.hi:Int)],size:=2,len:=fun _=>rfl }
structure Gj.Ok(s:Gj):Prop where
 lo:s.lo<2^64
 hi:s.hi<2^64
def Gj.has(s:Gj)(n:Nat):Bool:=if n<64 then s.lo.testBit n else s.hi.testBit (n-64)
def FU(s:Gj)(n:Nat):Gj:=if n<64 then⟨s.lo ||| 2^n,s.hi⟩ else⟨s.lo,s.hi ||| 2^(n-64)⟩
def WO(a b:Gj):Gj:=⟨a.lo ||| b.lo,a.hi ||| b.hi⟩
def b6q(a b:Gj):Bool:=decide (a.lo ^^^ (a.lo &&& b.lo)=0)&&decide (a.hi ^^^ (a.hi &&& b.hi)=0)
def Ul(l:List Int):Nat→Gj
 |0=>⟨0,0⟩
 |k+1=>FU (Ul l k) (gi l k).toNat
def qQ(a:Nat):Nat→Gj
 |0=>⟨0,0⟩
 |k+1=>FU (qQ a k) (a+k)
theorem lV(s:Gj)(a:n<128)(b:m<128):(FU s n).has m=(s.has m||decide (m=n)):=by
 unfold FU Gj.has;by_cases d:n<64<;>by_cases c:m<64
 ·grind
 ·grind
 ·grind
 grind
theorem SK(h:s.Ok)(a:n<128):(FU s n).Ok:=by
 unfold FU;split
 ·exact⟨ft h.lo (en (by omega) (by omega)),h.hi⟩
 ·exact⟨h.lo,ft h.hi (en (by omega) (by omega))⟩
theorem c4u(d:a.Ok)(c:b.Ok):(WO a b).Ok:=⟨ft d.lo c.lo,ft d.hi c.hi⟩
theorem mQ(m:Nat):(⟨0,0⟩:Gj).has m=false:=by simp[Gj.has]
theorem OV:(⟨0,0⟩:Gj).Ok:=⟨by simp,by simp⟩
theorem uO(x y:Nat):x ^^^ (x &&& y)=0↔∀i,x.testBit i=true→y.testBit i=true:=by
 constructor
 ·intro h i a
  have:=congrArg (fun z=>Nat.testBit z i) h;grind
 ·intro h
  refine iA fun i=>?_
  grind
theorem b8n(e:a.Ok):b6q a b=true↔∀m,m<128→a.has m=true→b.has m=true:=by
 have d:∀{x:Nat} {i:Nat},x<2^64→64≤i→x.testBit i=false:=fun f hi=>Nat.testBit_lt_two_pow (ag f (aD (by omega) hi))
 unfold b6q;rw[cx,decide_eq_true_iff,decide_eq_true_iff,uO,uO];constructor
 ·rintro⟨n,k⟩ m j
  unfold Gj.has;grind
 ·intro h
  refine⟨fun i hi=>?_,fun i hi=>?_⟩
  ·by_cases c:i<64
   ·have:=h i (by omega)
    simp only[Gj.has,if_pos c] at this;grind
   ·rw[d e.lo (by omega)] at hi;grind
  ·by_cases c:i<64
   ·have:=h (64+i) (by omega)
    have g:¬ 64+i<64:=by omega
    simp only[Gj.has,if_neg g,Nat.add_sub_cancel_left] at this;grind
   ·rw[d e.hi (by omega)] at hi;grind
theorem U5(h:∀i,i<l.length→0≤gi l i∧gi l i≤127):∀k,k≤l.length→(Ul l k).Ok
 |0,_=>OV
 |k+1,hk=>SK (U5 h k (by omega)) (by grind)
theorem oW(h:∀i,i<l.length→0≤gi l i∧gi l i≤127)(m:Nat)(a:m<128):∀k,k≤l.length→(Ul l k).has m=decide ((m:Int)∈l.take k)
 |0,_=>by simp[Ul,mQ]
 |k+1,hk=>by
  have b:=h k (by omega);simp only[Ul];rw[lV _ (by omega) a,oW h m a k (by omega),EH (by omega)];grind
theorem qx:∀k,a+k≤128→(qQ a k).Ok
 |0,_=>OV
 |k+1,hk=>SK (qx k (by omega)) (by omega)
theorem zN(m:Nat)(b:m<128):∀k,a+k≤128→(qQ a k).has m=decide (a≤m∧m<a+k)
 |0,_=>by rw[qQ,mQ,decide_eq_false (by omega)]
 |k+1,hk=>by
  simp only[qQ];rw[lV _ (by omega) b,zN m b k (by omega)];grind
section
variable {E:Env}{L:Vm.Frame}{H:Vm.Heap}{nx:Nat}{Q:PV→Heap→Nat→Prop}{w:Bool}{dst:Option Tmp}{ty:TypeId}{pos:String}{af:Array Edge}{gd:Option (Nat×Bool)}
theorem c9y(m:Nat)(d:AY E.Γ L x=some (.p (.int .u64 1)))(c:AY E.Γ L y=some (.p (.int k' n)))(a:n=m∧m<64)(q:Q (.p (.int .u64 ((2^m:Nat):Int))) H nx) :
 Aa E w ⟨dst,.binOp .shl t x y b,ty,pos,af,gd⟩ L H nx Q:=by
 obtain⟨rfl,a⟩:=a;exact oE d c a q
end
theorem yc(n:Int):Ak env 68 [.int .i64 n] (.p (.bool (decide (0≤n∧n≤127)))):=by
 refine Ak.enter (Af (by decide)) Tryz.func68 rfl (by kernel_rfl) (by simp) ?_
 repeat' (first|refine Fj ?_|(apply Ah.guard;rfl;rfl)|(intro _))
 all_goals(refine aa ?_;grind)
theorem pW(a b:Gj)(d:a.Ok)(c:b.Ok):Ak env 71 [.agg (Enc.enc a),.agg (Enc.enc b)] (.p (.agg [.int .u64 ((a.lo ^^^ (a.lo &&& b.lo):Nat):Int),.int .u64 ((a.hi ^^^ (a.hi &&& b.hi):Nat):Int)])):=by
 have f:=d.lo;have e:=d.hi;have b1:=c.lo;have b2:=c.hi;refine Ak.enter (Af (by decide)) Tryz.func71 rfl (by kernel_rfl) (by simp) ?_
 repeat' (first|refine Fh ?_|refine b7 ?_|fail)
 all_goals(refine aa ?_;try rfl)
theorem Nv(a b:Gj)(d:a.Ok)(c:b.Ok):Ak env 67 [.agg (Enc.enc a),.agg (Enc.enc b)] (.p (.agg (Enc.enc (WO a b)))):=by
 have f:=d.lo;have e:=d.hi;have b1:=c.lo;have b2:=c.hi;refine Ak.enter (Af (by decide)) Tryz.func67 rfl (by kernel_rfl) (by simp) ?_
 repeat' (first|refine Fh ?_|refine b7 ?_|fail)
 all_goals(refine aa ?_;try rfl)
theorem c4o:XJ Tryz.prog 106=true:=by kernel_rfl
theorem d0e(a b c d:Nat):Vm.jT Tryz.prog 106 [.int .u64 (a:Int),.int .u64 (b:Int)] [.int .u64 (c:Int),.int .u64 (d:Int)]=some (decide (a=c)&&decide (b=d)):=by
 show some (decide ((a:Int)=c)&&(decide ((b:Int)=d)&&true))=_;congr 2
 ·grind
 grind
theorem uI(a b:Gj)(e:a.Ok)(d:b.Ok):Ak env 35 [.agg (Enc.enc a),.agg (Enc.enc b)] (.p (.bool (b6q a b))):=by
 have c:=pW a b e d;refine Ak.enter (Af (by decide)) Tryz.func35 rfl (by kernel_rfl) (by simp) ?_
 repeat' (first|refine a6 c ?_|(apply mL;rfl;rfl;exact c4o;exact d0e _ _ 0 0)|refine go1 ?_|refine b7 ?_|fail)
 all_goals(refine aa ?_;try rfl)
theorem iI(s:Gj)(a:s.Ok)(n:Nat)(c:n<128):Ak env 69 [.agg (Enc.enc s),.int .i64 (n:Int)] (.p (.agg (Enc.enc (FU s n)))):=by
 have s1:=a.lo;have s2:=a.hi;unfold FU;by_cases h:n<64
 ·have b:2^n<2^64:=en (by omega) h
  rw[if_pos h];refine Ak.enter (Af (by decide)) Tryz.func69 rfl (by kernel_rfl) (by simp[Tryz.ntmps69]) ?_
  repeat' (first|refine Fj ?_|(apply c9y n;rfl;rfl;omega)|(apply a8;rfl)|(intro _;try omega))
  all_goals first|omega|(refine aa ?_;try rfl)
 ·have b:2^(n-64)<2^64:=en (by omega) (by omega)
  rw[if_neg h];refine Ak.enter (Af (by decide)) Tryz.func69 rfl (by kernel_rfl) (by simp[Tryz.ntmps69]) ?_
  repeat' (first|refine Fj ?_|(apply c9y (n-64);rfl;rfl;omega)|(apply a8;rfl)|(intro _;try omega))
  all_goals first|omega|(refine aa ?_;try rfl)
theorem SS(l:List Int)(e:l.length<1000000)(h:∀i,i<l.length→0≤gi l i∧gi l i≤127):Ak env 32 [.lst 3 (cells l) l.length] (.DK [.p (.agg (Enc.enc (Ul l l.length))),.p (.int .i64 0)]):=by
 refine Ak.enter (Af (by decide)) Tryz.func32 rfl (by kernel_rfl) (by simp[Tryz.ntmps32]) ?_
 repeat' (first|refine go1 ?_|fail)
 apply Ad.EY (l.length) [(2,_),(4,_),(7,_),(8,_)] [(0,_)] (fun k r=>(9,.p (.int .i64 (k:Int)))::r) (fun k r=>(1,.box 106 ((Enc.enc (Ul l k)).map .p))::r) 2
 ·first|omega|decide
 ·first|omega|decide
 ·exact Ns
 ·exact O9
 ·intro k d
  have c:=h k d;have b:=yc (gi l k);rw[decide_eq_true c] at b;have a:=iI (Ul l k) (U5 h k (by omega)) (gi l k).toNat (by omega);rw[cE c.1] at a
  repeat' (first|refine a6 b ?_|refine a6 a ?_|refine b9 ?_|refine Fh ?_|refine a7 ?_|(apply cn;rfl)|(apply a8;rfl)|(intro _;try omega))
  all_goals try omega
  refine Aj.normal ⟨by first|omega|decide,?_,?_⟩
  ·exact Dh
  ·exact DT
 ·repeat' (first|refine Fj ?_|(apply a8;rfl)|(intro _;try omega))
  all_goals first|omega|(refine aa ?_;try rfl)
theorem zk(a n:Nat)(h:a+n<128):Ak env 34 [.agg [.int .i64 (a:Int),.int .i64 ((a+n:Nat):Int)]] (.DK [.p (.agg (Enc.enc (qQ a (n+1)))),.p (.int .i64 0)]):=by
 have b:=V6 (a:Int) ((a+n:Nat):Int);rw[Tq (by omega)] at b;refine Ak.enter (Af (by decide)) Tryz.func34 rfl (by kernel_rfl) (by simp[Tryz.ntmps34]) ?_
 repeat' (first|refine a6 b ?_|refine go1 ?_|refine a7 ?_|(apply cn;rfl))
 apply Ad.EY (n+1) [(1,_),(2,_),(4,_)] [(0,_),(1,_)] (fun k r=>(6,.p (.int .i64 ((a+k:Nat):Int)))::r) (fun k r=>(2,.box 106 ((Enc.enc (qQ a k)).map .p))::r) 3
 ·first|omega|decide
 ·first|omega|decide
 ·exact Ns
 ·exact O9
 ·intro k d
  have c:=iI (qQ a k) (qx k (by omega)) (a+k) (by omega)
  repeat' (first|refine a6 c ?_|refine Fh ?_|refine a7 ?_|(apply a8;rfl)|(intro _;try omega))
  all_goals try omega
  refine Aj.normal ⟨by first|omega|decide,?_,?_⟩
  ·exact Dh
  ·exact DT
 ·repeat' (first|refine Fj ?_|(apply a8;rfl)|(intro _;try omega))
  all_goals first|omega|(refine aa ?_;try rfl)
end Go.Proofs.YthlffjlbidibdaaGreatDoor
namespace Go.Vm
open Go.Am
structure b0d where
instance:Enc b0d:={ default:=⟨⟩,enc:=fun _=>[.val (.slice none 0 0)],size:=1,len:=fun _=>rfl }
theorem lD:∀n:Nat,(cells (List.replicate n (⟨⟩:b0d))).map PV.p=List.replicate n (.p (.val (.slice none 0 0)))
 |0=>rfl
 |n+1=>by
  rw[iX,iX,← lD n];rfl
theorem Xl{α:Type}(f:Nat→α)(h:i<n):((List.range n).map f)[i]?=some (f i) :=by grind
theorem Uy{α:Type}(f:Nat→α)(n i:Nat)(x:α):((List.range n).map f).set i x=(List.range n).map fun j=>if j=i then x else f j:=by
 apply bo;grind
theorem QC{α:Type}{f g:Nat→α}(h:∀j,j<n→f j=g j):(List.range n).map f=(List.range n).map g :=by simp_all
section
variable {E:Env}{L:Frame}{H:Heap}{nx:Nat}
theorem c6o(a:AY Γ L r=some y)(d:c2t H y=some c)(f:b≠c):kX Γ L H b [r]=true:=by
 simp only[kX,a,b3k,d,Bool.and_true];cases hd:Nat.decEq b c with
 |isTrue e=>omega
 |isFalse _=>rfl
theorem Ap.vI(a s n:Nat)(f:Nat→List FV)(k:Nat→Nat)(I:hget H a=some (.Fq e' ((List.range n).map fun j=>.vec (s+j) (k j) 0 (k j)) d))(F:∀j,j<n→hget H (s+j)=some (.vec e (f j) (k j) z))(b:∀j,j<n→s+j≠a) :
 ∃H',hget H' a=some (.Fq e' ((List.range n).map fun j=>.p (.lst e (f j) (k j))) d)∧Ap E L H nx L H' nx:=by
 have g:∀r,r≤n→∃H',hget H' a=some (.Fq e' ((List.range n).map fun j=>if j<r then .p (.lst e (f j) (k j)) else .vec (s+j) (k j) 0 (k j)) d)∧(∀j,r≤j→j<n→hget H' (s+j)=some (.vec e (f j) (k j) z))∧Ap E L H nx L H' nx:=by
  intro r
  induction r with
  |zero=>intro _;exact⟨H,by grind,fun j _ q=>F j q,Ap.refl⟩
  |succ r y =>
   intro G;obtain⟨H',m,u,h⟩:=y (by omega);have A:((List.range n).map fun j=>if j<r then(.p (.lst e (f j) (k j)):PV) else .vec (s+j) (k j) 0 (k j))[r]?=some (.vec (s+r) (k r) 0 (k r)):=by
    grind
   have C:=sj (E:=E) (L:=L) (nx:=nx) a r m A (u r (ab _) (by omega));refine⟨_,?_,fun j B c=>?_,h.trans C⟩
   ·rw[FN,if_pos rfl,Jg,if_neg (b r (by omega)),m]
    simp only[Option.map_some];rw[Uy];congr 2
    refine QC fun j q=>?_
    by_cases o:j=r
    ·rw[if_pos o,if_pos (by omega),o]
    ·rw[if_neg o]
     by_cases x:j<r
     ·rw[if_pos x,if_pos (by omega)]
     ·rw[if_neg x,if_neg (by omega)]
   ·rw[FN,if_neg (Ne.symm (b j c)),Jg,if_neg (by omega)]
    exact u j (by omega) c
 obtain⟨H',m,_,h⟩:=g n (ab _);refine⟨H',?_,h⟩;simp_all
variable {Q:PV→Heap→Nat→Prop}{dst:Option Tmp}{ty:TypeId}{pos:String}{af:Array Edge}{gd:Option (Nat×Bool)}
theorem rR{α:Type}{_:Enc α}{l:List α}(o m:α){s x:Operand}{u r e e2:TypeId}{p:TypeDesc}{i:TypeInfo}{b b2 n:Nat}{xs:List FV}{z A:Bool}(C:AY E.Γ L s=some (.vec b n 0 n))(K:hget H b=some (.vec e (cells l) n z))
 (B:AY E.Γ L x=some (.vec b2 2 0 2)) (j:hget H b2=some (.vec e2 xs 2 A)) (c:xs=Enc.enc o++Enc.enc m) (F:l.length=n) (h:E.P.underlying u=some (.slice e)) (g:E.P.underlying r=some p) (I:∀k,p≠.int k) (G:E.P.info? e=some i)
 (d:Enc.size α=i.size) (f:EO i=true) (M:0<i.size) (J:i.bytes<1000000) (y:l.length<900000) (q:Q (.vec b (l.length+2) 0 (l.length+2)) (hput H b (.vec e (cells (l++[o,m])) (l.length+2) z)) nx) :
 Aa E true ⟨dst,.call { callee:=.builtin .append,args:=#[s,x],argTypes:=#[u,r] },ty,pos,af,gd⟩ L H nx Q:=by
 subst F;have a:(l.length+2)*(i.bytes+1)≤room:=an (di (by omega:l.length+2≤1000000) (by omega:i.bytes+1≤1000000)) (by decide);refine Aa.append (i:=i) C K (uG.all B j (by rw[c,ar,Enc.len,Enc.len,← d];omega)) h g I G f (by omega) a (by rw[BD,d]) M ?_;have:cells (l++[o,m])=cells l++xs:=by rw[ET,c];simp[cells,encs]
 grind
end
end Go.Vm
namespace Go.Proofs.YthlffjlbidibdaaGreatDoor
open Go Go.Am Go.Vm Go.Pie
attribute [local irreducible] Aa Ah Ai Ad AL Ak Bf BK Bj Aj Vm.Done Bv AP
attribute [local irreducible] Cb Bg D5 DU EF AV CB
instance:Enc (List Int):={ default:=[],enc:=fun l=>[.lst 3 (cells l) l.length],size:=1,len:=fun _=>rfl }
def Oc(p:Ez)(L:List Int)(d:Nat):Nat→List Int
 |0=>[]
 |k+1=>if(gi p.notes (gi L k).toNat).d=(d:Int) then Oc p L d k++[(gi p.notes (gi L k).toNat).k] else Oc p L d k
theorem tu(p:Ez)(L:List Int)(d:Nat):∀k,(Oc p L d k).length≤k
 |0=>ab _
 |k+1=>by
  have:=tu p L d k;unfold Oc;grind
theorem aN:∀{k:Nat} {x:Int},x∈La p t k→0≤x∧x<k
 |0,x,h=>by cases h
 |k+1,x,h=>by
  unfold La at h;split at h
  ·rcases bt.1 h with h|h
   ·have:=aN h;omega
   grind
  ·have:=aN h;omega
theorem gi_mem'{l:List Int}(h:i<l.length):gi l i∈l:=by
 unfold gi;grind
theorem b2o(h:i<(snd p t).length):0≤gi (snd p t) i∧gi (snd p t) i<p.notes.length:=aN (gi_mem' h)
theorem Zp:∀l:List (List Int),cells l=l.map fun a=>FV.lst 3 (cells a) a.length
 |[]=>rfl
 |a::l=>by
  rw[bv,← Zp l];rfl
theorem SA.cmp(h:SA o)(hi:i<o.Ae.length):0≤(gi o.Ae i).lo∧(gi o.Ae i).hi≤127:=by
 have a:=h.err;unfold Ur at a;split at a
 ·omega
 split at a
 ·omega
 split at a
 ·omega
 split at a
 ·omega
 split at a
 ·omega
 split at a
 ·omega
 rename_i b;have b:GK o.ranks o.Ae 0=0:=bx b;have:=Tm _ 0 rfl b i (ao _) hi;unfold DU at this;split at this
 ·omega
 rename_i c;unfold XK at c;omega
def tlK(p:Ez)(L:List Int)(k:Nat)(j:Nat):HB:=.vec 3 (cells (Oc p L j k)) (Oc p L j k).length true
def kdV(p:Ez)(L:List Int)(nd k:Nat):HB:=.Fq 41 ((List.range nd).map fun j=>.vec (4+j) (Oc p L j k).length 0 (Oc p L j k).length) nd
theorem oh(h:b≤8):(kdV p L b k).under 12:=by
 show CZ.under 12 _;have:∀l:List Nat,(∀j∈l,j<b)→CZ.under 12 (l.map fun j=>PV.vec (4+j) (Oc p L j k).length 0 (Oc p L j k).length):=by
  intro l
  induction l with
  |nil=>intro _;trivial
  |cons a l d=>exact fun c=>⟨by show 4+a<12;have:=c a (by simp);omega,d fun j e=>c j (am _ e)⟩
 grind
theorem a5g(a:SA o)(h:XM o p){L:List Int}(e:∀i,i<L.length→0≤gi L i∧gi L i<p.notes.length){d:Nat}:∀k,k≤L.length→∀i,i<(Oc p L d k).length→0≤gi (Oc p L d k) i∧gi (Oc p L d k) i≤127
 |0,_,i,hi=>by cases hi
 |k+1,hk,i,hi=>by
  have f:=a5g a h e (d:=d) k (by omega);unfold Oc at hi ⊢;split
  ·rename_i g
   have b:=h.note (gi L k).toNat (by grind);have j:=a.cmp (i:=(gi p.notes (gi L k).toNat).d.toNat) (by have:=b.d;omega);have c:=b.k;rcases aq i (Oc p L d k).length with h1|h1
   ·rw[NK h1];grind
   ·obtain rfl:i=(Oc p L d k).length:=by grind
    rw[Na];omega
  grind
noncomputable def a0a(o:FZ)(p:Ez)(t:Int):List Gj:=Bh (fun d=>Ul (Oc p (snd p t) d (snd p t).length) (Oc p (snd p t) d (snd p t).length).length) o.Ae.length
theorem b1q{p:Ez}(G:SA o)(h:XM o p)(t:Int)(he:atE o p t=0):Ak env 10 [.agg (Enc.enc o),.agg (Enc.enc p),.int .i64 t] (.DK [.p (.lst 106 (cells (a0a o p t)) (a0a o p t).length),.p (.int .i64 0)]):=by
 have T:=fO o p G.sm h.sm t;rw[he] at T;have Z:=YQ p h.sm t;have W:=G.Ae;have S:=fun i=>b2o (p:=p) (t:=t) (i:=i)
 have Y:(snd p t).length≤1000:=an (OM p t _) h.notes;have n1:=h.notes;unfold a0a;generalize snd p t=L at *;refine Ak.enter (Af (by decide)) Tryz.func10 rfl (by kernel_rfl) (by simp[Tryz.ntmps10]) ?_
 repeat' (first|(refine eB 32 ?_;refine c7 (b6 31 rfl rfl) ?_)|apply Ad.assoc|apply ce|apply f9|apply jt|apply Ah.nil|apply c9|refine a6 T ?_|(apply jz;rfl;rfl;exact Z)|(apply ll o.Ae.length (⟨⟩:b0d);rfl;rfl;rfl;rfl;rfl;rfl;rfl;omega;decide;decide;rfl)|(apply Aa.assign;rfl)|(apply Aa.move;rfl)|refine a7 ?_|(apply Aa.load;rfl;rfl)|(apply kb;rfl;rfl)|(apply e8;rfl;rfl;rfl)|(apply Aa.box;rfl;trivial)|(apply cn;rfl))
 all_goals try omega
 all_goals try contradiction
 refine cb (qa 2 rfl (by omega)) ?_;refine cb (H':=[(2,.Fq 41 ((cells (List.replicate o.Ae.length (⟨⟩:b0d))).map .p) o.Ae.length),(1,.box 45 ((Enc.enc p).map .p)),(0,.box 40 ((Enc.enc o).map .p))]++CB 4 8 (fun _=>.vec 3 [] 0 true)) (ot (H:=[(2,.Fq 41 ((cells (List.replicate o.Ae.length (⟨⟩:b0d))).map .p) o.Ae.length),(1,.box 45 ((Enc.enc p).map .p)),(0,.box 40 ((Enc.enc o).map .p))]) 3 8 (OJ (by decide) (OJ (by decide) (OJ (by decide) a6q)))) ?_;refine cb (Ap.useCells 2 4 (n:=o.Ae.length) o.Ae.length (fun j c=>CU (by omega) (CU (by omega) (CU (by omega) (Il (by omega))))) (fun j c=>by omega) ((show hget _ 2=some (HB.Fq 41 ((cells (List.replicate o.Ae.length (⟨⟩:b0d))).map .p) o.Ae.length) from rfl).trans (congrArg (fun l=>some (HB.Fq 41 l o.Ae.length)) (lD _))) (ab _)) ?_;apply Ad.EY (L.length) [(4,_),(9,_),(31,_),(32,_)] [] (fun k r=>(33,.p (.int .i64 (k:Int)))::r) (fun k _=>(2,kdV p L o.Ae.length k)::(1,.box 45 ((Enc.enc p).map .p))::CB 4 8 (tlK p L k)) 12
 ·first|omega|decide
 ·first|omega|decide
 ·exact Ns
 ·refine⟨⟨AZ rfl,oh W.2,_,rfl,.of_eq ?_⟩,⟨AZ rfl,eL _ _,_,rfl,.refl _⟩,la (fun j c=>?_) (by omega) (fun j c=>trivial)⟩
  ·unfold kdV
   rw[cW];simp only[List.replicate_zero,List.append_nil];rfl
  ·refine EL (by omega) (CU (by omega) (CU (by omega) (CU (by omega) ?_)))
   exact Il c
 ·intro k x
  obtain⟨g1,g2⟩:=S k x;obtain⟨m,O⟩:∃m:Nat,gi L k=(m:Int):=⟨(gi L k).toNat,by omega⟩
  have I:m<p.notes.length:=by omega
  have U:=h.note m I;obtain⟨j,c⟩:∃j:Nat,(gi p.notes m).d=(j:Int):=⟨(gi p.notes m).d.toNat,by have:=U.d;omega⟩
  have J:j<o.Ae.length:=by have:=U.d;omega
  have s:∀i,Oc p L i (k+1)=if i=j then Oc p L i k++[(gi p.notes m).k] else Oc p L i k:=fun i=>by
   show(if(gi p.notes (gi L k).toNat).d=(i:Int) then Oc p L i k++[(gi p.notes (gi L k).toNat).k] else Oc p L i k)=_;rw[O,az,c];by_cases e:i=j
   ·subst e;rw[if_pos rfl,if_pos rfl]
   ·rw[if_neg e,if_neg (by omega)]
  have hkl:=tu p L j k;have A:hget (CB 4 8 (tlK p L k)) (4+j)=some (.vec 3 (cells (Oc p L j k)) (Oc p L j k).length true):=Il (by omega);have C:∀y,hput (CB 4 8 (tlK p L k)) (4+j) y=CB 4 8 (fun i=>if i=j then y else tlK p L k i):=fun y=>Yn (by omega)
  repeat' (first|(refine i7 11 ?_;apply Ai.weak [.tmp 43];decide +kernel;rfl;rfl;exact Oi.vec (by(repeat(first|exact A|(refine EL (by omega) ?_)|(refine CU (by omega) ?_))));decide +kernel;exact c6o rfl rfl (by omega))|apply ce|apply Ad.region|apply ka|apply f9|apply jt|apply BK.normal|apply Bj.normal|apply Ah.nil|apply Ai.nil|apply c9|(apply Ai.bar;decide +kernel)|apply Ai.quiet|(apply dl (l:=p.notes) (i:=m);rfl;exact congrArg (fun b=>some (PV.p (.int .i64 b))) O;rfl;omega;rfl)|(apply rx (i:=j);rfl;rfl;exact congrArg (fun b=>some (PV.p (.int .i64 b))) c;rfl;omega)|(apply rm;rfl;rfl;rfl;(show(List.map _ (List.range o.Ae.length))[j*1]?=_;rw[fy];exact Xl _ J))|(apply pM (l:=Oc p L j k) (a:=(gi p.notes m).k);rfl;((repeat(first|exact A|(refine EL (by omega) ?_)|(refine CU (by omega) ?_))));rfl;rfl;rfl;rfl;rfl;rfl;(intro _ h;cases h);rfl;rfl;rfl;decide;decide;omega;((repeat(first|exact C _|(apply Zm;omega)|(apply OI;omega)))))|(apply rB;rfl;rfl;rfl;trivial;rfl;rfl;decide;(show j*1+1≤(List.map _ (List.range o.Ae.length)).length;rw[aL,fq];omega))|(apply Aa.assign;rfl)|(apply Aa.move;rfl)|(apply jl;rfl;rfl;omega)|refine a7 ?_|refine b9 ?_|(apply Aa.load;rfl;rfl)|(apply e8;rfl;rfl;rfl)|(apply Aa.alloc;rfl)|refine d9 ?_|refine bi ?_|(apply a8;rfl)|(intro _;try omega))
  all_goals try omega
  refine Aj.normal ⟨by first|omega|decide,?_,?_⟩
  ·exact Dh
  ·refine⟨⟨AZ rfl,oh W.2,_,rfl,.of_eq ?_⟩,⟨AZ rfl,eL _ _,_,rfl,.refl _⟩,la (fun i P=>?_) (by omega) (fun j c=>trivial)⟩
   ·show HB.Fq 41 (List.set ((List.range o.Ae.length).map fun j=>PV.vec (4+j) (Oc p L j k).length 0 (Oc p L j k).length) (j*1) (.vec (4+j) ((Oc p L j k).length+1) 0 ((Oc p L j k).length+1))) o.Ae.length=kdV p L o.Ae.length (k+1)
    unfold kdV;rw[fy,Uy];congr 1
    refine QC fun i P=>?_
    rw[s i];by_cases e:i=j
    ·subst e;rw[if_pos rfl,if_pos rfl];simp
    ·rw[if_neg e,if_neg e]
   ·repeat(first|(refine EL (by omega) ?_)|(refine CU (by omega) ?_))
    rw[Il P];unfold tlK;rw[s i];by_cases e:i=j
    ·subst e;rw[if_pos rfl,if_pos rfl];simp
    ·rw[if_neg e,if_neg e]
 ·obtain⟨H',N,X⟩:=Ap.vI (E:=env) (L:=(33,.p (.int .i64 (L.length:Int)))::_) (H:=(2,kdV p L o.Ae.length L.length)::(1,.box 45 ((Enc.enc p).map .p))::CB 4 8 (tlK p L L.length)) (nx:=12) 2 4 o.Ae.length (fun j=>cells (Oc p L j L.length)) (fun j=>(Oc p L j L.length).length) (z:=true) rfl (fun j c=>CU (by omega) (CU (by omega) (Il (by omega)))) (fun j c=>by omega)
  refine cb X ?_;obtain⟨f,q⟩:∃f,f=(List.range o.Ae.length).map fun j=>Oc p L j L.length:=⟨_,rfl⟩
  have K:cells f=(List.range o.Ae.length).map fun j=>FV.lst 3 (cells (Oc p L j L.length)) (Oc p L j L.length).length:=by
   rw[Zp,q,fa];rfl
  have hKl:f.length=o.Ae.length:=by rw[q];simp
  have g:∀d,d<o.Ae.length→gi f d=Oc p L d L.length:=fun d hd=>by
   unfold gi;rw[q,Xl _ hd];rfl
  refine cb (qb 2 (cells f) N (by omega) (by rw[K,fa];rfl)) ?_;refine nz (L0:=[(9,.vec 2 o.Ae.length 0 o.Ae.length),(32,.p (.int .i64 (L.length:Int))),(33,.p (.int .i64 (L.length:Int)))]) (H0:=[(2,.vec 41 (cells f) o.Ae.length false)]) (C9:=12) (by decide) ⟨by decide,by exact Dh,⟨⟨AZ rfl,trivial,_,by rw[FN,if_pos rfl,N];rfl,.refl _⟩,trivial⟩⟩ ?_
  repeat' (first|(apply eC;rfl;rfl;rfl)|refine Fj ?_|(apply a8;rfl)|(intro _;try omega))
  all_goals try omega
  refine cb (iD 13 106 rfl) ?_;obtain⟨F,V⟩:∃F:Nat→Gj,F=fun d=>Ul (Oc p L d L.length) (Oc p L d L.length).length:=⟨_,rfl⟩
  rw[← V];apply Ad.EY (o.Ae.length) [(56,_),(57,_)] [(2,_)] (fun k r=>(58,.p (.int .i64 (k:Int)))::(13,.vec 12 (Bh F k).length 0 (Bh F k).length)::r) (fun k r=>(12,.vec 106 (cells (Bh F k)) (Bh F k).length true)::r) 13
  ·first|omega|decide
  ·first|omega|decide
  ·exact Ns
  ·exact O9
  ·intro k x
   have hl:=Cm F k;have s:Bh F (k+1)=Bh F k++[F k]:=rfl;have B:(Bh F (k+1)).length=(Bh F k).length+1:=by rw[s];simp
   have hk3:=tu p L k L.length;have u:=SS (gi f k) (by rw[g k x];omega) (by
    rw[g k x];exact a5g G h S L.length (ab _))
   have M:Enc.enc (Ul (gi f k) (gi f k).length)=Enc.enc (F k):=by rw[g k x,V]
   rw[M] at u
   repeat' (first|refine a6 u ?_|refine d7 (a:=F k) ?_|(apply g9;rfl;rfl;rfl;rfl;omega)|refine Fh ?_|refine a7 ?_|refine bi ?_|(apply a8;rfl)|(intro _;try omega))
   all_goals try omega
   refine Aj.normal ⟨by first|omega|decide,?_,?_⟩
   ·try(first|rw[B,s]|rw[B])
    exact Dh
   ·first|rw[B,s]|rw[B]
    exact DT
  ·repeat' (first|(refine eB 6 ?_;refine c7 (b6 72 rfl rfl) ?_)|apply ce|apply jx|apply BK.normal|apply Bj.exit|apply Aj.exit|apply Ad.ret|apply Ah.nil|apply c9|(apply Aa.assign;rfl)|(apply Aa.move;rfl)|refine a7 ?_|(apply a8;rfl)|(intro _;try omega))
   all_goals first|omega|(refine aa ?_;try rfl)
instance:Enc qA:={ default:=⟨0,0,[]⟩,enc:=fun x=>[.int .i64 x.s,.int .i64 x.e,.lst 3 (cells x.notes) x.notes.length],size:=3,len:=fun _=>rfl }
def VD(p:Ez):Nat→List Int
 |0=>[Ll p,LW p]
 |k+1=>VD p k++[(gi p.notes k).s,(gi p.notes k).e]
theorem aF(p:Ez):∀k,(VD p k).length=2*k+2
 |0=>rfl
 |k+1=>by
  have:=aF p k;unfold VD;grind
def DC(p:Ez):List Int:=Lib.compact ((VD p p.notes.length).mergeSort fun x y=>decide (x≤y))
theorem YM(zs:List Int):(Lib.compact zs).length≤zs.length:=by
 unfold Lib.compact Lib.compactUpTo;grind
theorem a5c(p:Ez):0<(DC p).length:=by
 have b:Ll p∈DC p:=by
  unfold DC;rw[NH,fk];have:∀k,Ll p∈VD p k:=by
   intro k
   induction k with
   |zero=>simp[VD]
   |succ k a=>exact cN _ a
  grind
 grind
theorem d2h:∀(m:Mem) (F:Nat→Prop) (us:List Value),Du m F [] us→us=[]:=fun m F us h=>by cases h;rfl
def Bc(p:Ez):List qA:=b6k (snd p) (DC p)
theorem Q7(J:RD o)(P:OT o p=0)(h:XM o p):Ak env 7 [.agg (Enc.enc o),.agg (Enc.enc p)] (.DK [.p (.lst 62 (cells (Bc p)) (Bc p).length),.p (.int .i64 0)]):=by
 have A:=KR o p J h.sm;rw[P] at A;have n:=Tc p (by have:=h.bars;omega) h.sm.bars;have S:=h.notes;have j:=YQ p h.sm;refine Ak.enter (Af (by decide)) Tryz.func7 rfl (by kernel_rfl) (by simp[Tryz.ntmps7]) ?_
 repeat' (first|refine a6 A ?_|refine a6 n ?_|refine go1 ?_|refine a7 ?_|refine bi ?_|(apply cn;rfl))
 all_goals try omega
 all_goals try contradiction
 apply Ad.EY (p.notes.length) [(3,_),(30,_),(31,_)] [(1,_)] (fun k r=>(32,.p (.int .i64 (k:Int)))::(9,.vec 2 (VD p k).length 0 (VD p k).length)::r) (fun k r=>(2,.vec 3 (cells (VD p k)) (VD p k).length false)::r) 3
 ·first|omega|decide
 ·first|omega|decide
 ·exact Ns
 ·exact O9
 ·intro k z
  have M:=aF p k;have d:VD p (k+1)=VD p k++[(gi p.notes k).s,(gi p.notes k).e]:=rfl;have c:(VD p (k+1)).length=(VD p k).length+2:=by rw[d];simp
  repeat' (first|(apply rR (l:=VD p k) (gi p.notes k).s (gi p.notes k).e;rfl;rfl;rfl;rfl;rfl;rfl;rfl;rfl;(intro _ h;cases h);rfl;rfl;rfl;decide;decide;omega)|refine b9 ?_|refine Fh ?_|refine a7 ?_|refine bi ?_|(apply a8;rfl)|(intro _;try omega))
  all_goals try omega
  refine Aj.normal ⟨by first|omega|decide,?_,?_⟩
  ·try(first|rw[c,d]|rw[c])
   exact Dh
  ·first|rw[c,d]|rw[c]
   exact DT
 ·have M:=aF p p.notes.length
  obtain⟨zs,C⟩:∃zs,zs=VD p p.notes.length:=⟨_,rfl⟩
  have q:=YM ((VD p p.notes.length).mergeSort fun x y=>decide (x≤y));have f:((VD p p.notes.length).mergeSort fun x y=>decide (x≤y)).length=(VD p p.notes.length).length:=iz _;have G:=a5c p;have g:((DC p).length:Int)-1=(((DC p).length-1:Nat):Int):=by omega
  rw[show Lib.compact ((VD p p.notes.length).mergeSort fun x y=>decide (x≤y))=DC p from rfl] at q
  repeat' (first|(refine Ad.at 14 ?_;refine cb (b6 9 rfl rfl) ?_;first|apply ce|apply da)|((refine Aa.d1x (Fn:=og) (zs':=(VD p p.notes.length).mergeSort fun x y=>decide (x≤y)) c1i rfl rfl rfl (rest:=[]) (rv:=[]) d2h rfl rfl (by omega) ?_ (by omega) ?_;(simp only[og];rw[if_pos (by omega)])))|((refine Aa.d2o (Fn:=ou) (zs:=(VD p p.notes.length).mergeSort fun x y=>decide (x≤y)) (zs':=DC p++List.replicate ((VD p p.notes.length).length-(DC p).length) 0) (k:=(DC p).length) c1f rfl rfl rfl (rest:=[]) (rv:=[]) d2h rfl f (by omega) ?_ (by simp;omega) (by omega) ?_;(simp only[ou];rw[if_pos (by omega),f];rfl);rw[List.take_left]))|(apply kh (b:=(DC p).length-1);rfl;exact congrArg (fun b=>some (PV.p (.int .i64 b))) g;rfl;rfl;rfl;rfl;omega)|refine go2 ?_|apply ce|refine a7 ?_|(apply a8;rfl)|(intro _;try omega))
  all_goals try omega
  refine cb (iD 12 62 rfl) ?_;obtain⟨F,B⟩:∃F:Nat→qA,F=fun i=>⟨gi (DC p) i,gi (DC p) (i+1),snd p (gi (DC p) i)⟩:=⟨_,rfl⟩
  have O:Bc p=Bh F ((DC p).length-1):=by rw[B];rfl
  rw[O];apply Ad.EY ((DC p).length-1) [(3,_),(9,_),(52,_),(53,_)] [(1,_)] (fun k r=>(54,.p (.int .i64 (k:Int)))::(12,.vec 4 (Bh F k).length 0 (Bh F k).length)::r) (fun k r=>(4,.vec 62 (cells (Bh F k)) (Bh F k).length true)::r) 5
  ·first|omega|decide
  ·first|omega|decide
  ·exact Ns
  ·exact O9
  ·intro k z
   have K:=Cm F k;have u:F k=⟨gi (DC p) k,gi (DC p) (k+1),snd p (gi (DC p) k)⟩:=by rw[B]
   have d:Bh F (k+1)=Bh F k++[⟨gi (DC p) k,gi (DC p) (k+1),snd p (gi (DC p) k)⟩]:=by rw[← u];rfl
   have c:(Bh F (k+1)).length=(Bh F k).length+1:=by rw[d];simp
   have N:gi ((DC p).take ((DC p).length-1)) k=gi (DC p) k:=aj z;have m:(k:Int)+1=((k+1:Nat):Int):=by omega
   have I:=j (gi (DC p) k)
   repeat' (first|(refine i7 10 ?_;refine i6 (b6 68 rfl rfl) ?_)|(refine i7 9 ?_;apply Ai.c9x [.tmp 64];decide +kernel;decide +kernel;rfl)|apply ce|apply Ad.region|apply ka|apply f9|apply jt|apply BK.normal|apply Bj.normal|apply Ah.nil|apply Ai.nil|apply c9|(apply Ai.bar;decide +kernel)|apply Ai.quiet|(apply jz;rfl;rfl;exact I)|(apply dl (l:=(DC p).take ((DC p).length-1)) (i:=k);rfl;rfl;rfl;(rw[av];omega);(rw[av];omega))|(apply Aa.load (r:=.p (.int .i64 (gi (DC p) k)));rfl;exact(congrArg (fun b=>some (PV.p (FV.int .i64 b))) N))|(apply dl (l:=DC p) (i:=k+1);rfl;exact congrArg (fun b=>some (PV.p (.int .i64 b))) m;rfl;omega;rfl)|refine d7 (a:=(⟨gi (DC p) k,gi (DC p) (k+1),snd p (gi (DC p) k)⟩:qA)) ?_|(apply Aa.assign;rfl)|(apply Aa.move;rfl)|(apply jl;rfl;rfl;omega)|refine a7 ?_|(apply Aa.load;rfl;rfl)|refine b7 ?_|refine bi ?_|(apply a8;rfl)|(intro _;try omega))
   all_goals try omega
   refine Aj.normal ⟨by first|omega|decide,?_,?_⟩
   ·try(first|rw[c,d]|rw[c])
    exact Dh
   ·first|rw[c,d]|rw[c]
    exact DT
  ·repeat' (first|(refine eB 4 ?_;refine c7 (b6 73 rfl rfl) ?_)|apply ce|apply jx|apply BK.normal|apply Bj.exit|apply Aj.exit|apply Ad.ret|apply Ah.nil|apply c9|(apply Aa.assign;rfl)|(apply Aa.move;rfl)|refine a7 ?_|(apply a8;rfl)|(intro _;try omega))
   all_goals first|omega|(refine aa ?_;try rfl)
end Go.Proofs.YthlffjlbidibdaaGreatDoor
namespace Go.Pop
def S9:List Nat→Nat
 |[]=>0
 |r::l=>256*S9 l+r
def msk(s:Nat):Nat→Nat
 |0=>0
 |n+1=>256*msk s n+s
theorem and_split(d:r<256)(c:s<256):(256*q+r) &&& (256*M+s)=256*(q &&& M)+(r &&& s):=by
 have b:((256*q+r) &&& (256*M+s)) / 2^8=(256*q+r) / 2^8 &&& (256*M+s) / 2^8:=Nat.and_div_two_pow;have a:((256*q+r) &&& (256*M+s))%2^8=((256*q+r)%2^8) &&& ((256*M+s)%2^8):=Nat.and_mod_two_pow;rw[show(256*q+r) / 256=q by omega,show(256*M+s) / 256=M by omega] at b;rw[show(256*q+r)%256=r by omega,show(256*M+s)%256=s by omega] at a;omega
def b1(r:Nat):Nat:=(r / 2 &&& 85)+(r &&& 85)
def b2(r:Nat):Nat:=(r / 4 &&& 51)+(r &&& 51)
def b3(r:Nat):Nat:=(r / 16+r) &&& 15
theorem f1:∀b,b<2→∀r,r<256→(128*b+r / 2) &&& 85=r / 2 &&& 85:=by decide +kernel
theorem f2:∀b,b<4→∀r,r<256→(64*b+r / 4) &&& 51=r / 4 &&& 51:=by decide +kernel
theorem s1(a:r<256):((256*q+r) / 2 &&& (256*M+85))+((256*q+r) &&& (256*M+85))=256*((q / 2 &&& M)+(q &&& M))+b1 r:=by
 rw[show(256*q+r) / 2=256*(q / 2)+(128*(q%2)+r / 2) by omega,and_split (by omega) (by decide),and_split a (by decide),f1 _ (by omega) _ a];unfold b1;omega
theorem s2(a:r<256):((256*q+r) / 4 &&& (256*M+51))+((256*q+r) &&& (256*M+51))=256*((q / 4 &&& M)+(q &&& M))+b2 r:=by
 rw[show(256*q+r) / 4=256*(q / 4)+(64*(q%4)+r / 4) by omega,and_split (by omega) (by decide),and_split a (by decide),f2 _ (by omega) _ a];unfold b2;omega
theorem c6d(x:Nat):x &&& 15=x%16:=by
 have:=du x 4;omega
theorem s3(a:r%16≤4∧r / 16≤4)(b:q%16≤4):((256*q+r) / 16+(256*q+r)) &&& (256*M+15)=256*((q / 16+q) &&& M)+b3 r:=by
 rw[show(256*q+r) / 16+(256*q+r)=256*(q / 16+q)+(16*(q%16)+r / 16+r) by omega,and_split (by omega) (by decide)];unfold b3;rw[c6d,c6d];omega
theorem m1:∀l:List Nat,(∀r∈l,r<256)→(S9 l / 2 &&& msk 85 l.length)+(S9 l &&& msk 85 l.length)=S9 (l.map b1)
 |[],_=>rfl
 |r::l,h=>by
  show((256*S9 l+r) / 2 &&& (256*msk 85 l.length+85))+((256*S9 l+r) &&& (256*msk 85 l.length+85))=256*S9 (l.map b1)+b1 r;rw[s1 (h r (by simp)),m1 l fun x a=>h x (by grind)]
theorem m2:∀l:List Nat,(∀r∈l,r<256)→(S9 l / 4 &&& msk 51 l.length)+(S9 l &&& msk 51 l.length)=S9 (l.map b2)
 |[],_=>rfl
 |r::l,h=>by
  show((256*S9 l+r) / 4 &&& (256*msk 51 l.length+51))+((256*S9 l+r) &&& (256*msk 51 l.length+51))=256*S9 (l.map b2)+b2 r;rw[s2 (h r (by simp)),m2 l fun x a=>h x (by grind)]
theorem c2n:∀l:List Nat,(∀r∈l,r%16≤4∧r / 16≤4)→S9 l%16≤4
 |[],_=>by decide
 |r::l,h=>by
  have:=(h r (by simp)).1;show(256*S9 l+r)%16≤4;omega
theorem m3:∀l:List Nat,(∀r∈l,r%16≤4∧r / 16≤4)→(S9 l / 16+S9 l) &&& msk 15 l.length=S9 (l.map b3)
 |[],_=>rfl
 |r::l,h=>by
  have a:=fun x b=>h x (am r b)
  show((256*S9 l+r) / 16+(256*S9 l+r)) &&& (256*msk 15 l.length+15)=256*S9 (l.map b3)+b3 r;rw[s3 (h r (by simp)) (c2n l a),m3 l a]
def ZF(p:Nat):Nat:=p%2+p / 2%2+p / 4%2+p / 8%2+p / 16%2+p / 32%2+p / 64%2+p / 128%2
theorem k1:∀r,r<256→b1 r<256∧(b2 (b1 r)%16≤4∧b2 (b1 r) / 16≤4)∧b3 (b2 (b1 r))=ZF r∧ZF r≤8:=by decide +kernel
def swA(x:Nat):Nat:=(x / 2 &&& 6148914691236517205)+(x &&& 6148914691236517205)
def swB(x:Nat):Nat:=(x / 4 &&& 3689348814741910323)+(x &&& 3689348814741910323)
def swC(x:Nat):Nat:=(x / 16+x) &&& 1085102592571150095
def swD(x:Nat):Nat:=x+x / 256
def swE(x:Nat):Nat:=x+x / 65536
def swF(x:Nat):Nat:=x+x / 4294967296
def sw(x:Nat):Nat:=swF (swE (swD (swC (swB (swA x))))) &&& 127
def bytesOf(x:Nat):List Nat:=[x%256,x / 256%256,x / 65536%256,x / 16777216%256,x / 4294967296%256,x / 1099511627776%256,x / 281474976710656%256,x / 72057594037927936%256]
theorem a8d(h:x<18446744073709551616):S9 (bytesOf x)=x:=by
 simp only[bytesOf,S9];omega
theorem y9(x:Nat):∀r∈bytesOf x,r<256:=by
 intro r a;simp only[bytesOf,List.mem_cons,List.not_mem_nil,or_false] at a;omega
theorem c8m(x:Nat):x &&& 127=x%128:=by
 have:=du x 7;omega
theorem TW{P:Nat→Prop}{l:List Nat}(h:∀r∈l,P (f r)):∀r∈l.map f,P r :=by grind
theorem k85:msk 85 8=6148914691236517205 :=by decide
theorem k51:msk 51 8=3689348814741910323 :=by decide
theorem k15:msk 15 8=1085102592571150095 :=by decide
theorem XC(x:Nat):(bytesOf x).length=8:=rfl
theorem abc(h:x<18446744073709551616):swC (swB (swA x))=S9 ((bytesOf x).map ZF)∧swA x=S9 ((bytesOf x).map b1)∧swB (swA x)=S9 (((bytesOf x).map b1).map b2):=by
 have b:=y9 x;have d:swA x=S9 ((bytesOf x).map b1):=by
  have:=m1 (bytesOf x) b;rw[a8d h,XC,k85] at this;assumption
 have c:swB (swA x)=S9 (((bytesOf x).map b1).map b2):=by
  rw[d];have:=m2 ((bytesOf x).map b1) (TW fun r a=>(k1 r (b r a)).1);rw[aL,XC,k51] at this;assumption
 refine⟨?_,d,c⟩;rw[c];have e:=m3 (((bytesOf x).map b1).map b2) (TW (TW (P:=fun y=>b2 y%16≤4∧b2 y / 16≤4) fun r a=>(k1 r (b r a)).2.1));have f:(((bytesOf x).map b1).map b2).map b3=(bytesOf x).map ZF:=by
  exact gr fun r a=>(k1 r (b r a)).2.2.1
 rw[f,aL,aL,XC,k15] at e;assumption
theorem xB(h:x<18446744073709551616):sw x=(ZF (x%256)+ZF (x / 256%256)+ZF (x / 65536%256)+ZF (x / 16777216%256)+ZF (x / 4294967296%256)+ZF (x / 1099511627776%256)+ZF (x / 281474976710656%256)+ZF (x / 72057594037927936%256)) ∧
 swC (swB (swA x))<1157442765409226760∧swA x<18446744073709551616∧swB (swA x)≤4919131752989213764:=by
 obtain⟨e,k,j⟩:=abc h;have b:=fun r (a:r<256)=>(k1 r a).2.2.2
 have O:=b (x%256) (by omega);have N:=b (x / 256%256) (by omega);have M:=b (x / 65536%256) (by omega);have K:=b (x / 16777216%256) (by omega);have J:=b (x / 4294967296%256) (by omega);have I:=b (x / 1099511627776%256) (by omega);have G:=b (x / 281474976710656%256) (by omega);have F:=b (x / 72057594037927936%256) (by omega);have d:∀l:List Nat,l.length=8→(∀r∈l,r<256)→S9 l<18446744073709551616:=by
  intro l f a
  match l,f with
  |[y0,y1,y2,y3,y4,y5,y6,y7],_ =>
   have C:=a y0 (by simp);have B:=a y1 (by simp);have A:=a y2 (by simp);have z:=a y3 (by simp);have u:=a y4 (by simp);have s:=a y5 (by simp);have q:=a y6 (by simp);have p:=a y7 (by simp);simp only[S9];omega
 have c:∀l:List Nat,l.length=8→(∀r∈l,r≤68)→S9 l≤4919131752989213764:=by
  intro l f a
  match l,f with
  |[y0,y1,y2,y3,y4,y5,y6,y7],_ =>
   have C:=a y0 (by simp);have B:=a y1 (by simp);have A:=a y2 (by simp);have z:=a y3 (by simp);have u:=a y4 (by simp);have s:=a y5 (by simp);have q:=a y6 (by simp);have p:=a y7 (by simp);simp only[S9];omega
 have g:=y9 x;refine⟨?_,?_,by rw[k];exact d _ rfl (TW fun r a=>(k1 r (g r a)).1),by rw[j];exact c _ rfl (TW (TW (P:=fun y=>b2 y≤68) fun r a=>by have:=(k1 r (g r a)).2.1;omega))⟩
 ·unfold sw
  rw[e,c8m];simp only[bytesOf,List.map_cons,List.map_nil,S9,swD,swE,swF];generalize ZF (x%256)=y0 at *;generalize ZF (x / 256%256)=y1 at *;generalize ZF (x / 65536%256)=y2 at *;generalize ZF (x / 16777216%256)=y3 at *;generalize ZF (x / 4294967296%256)=y4 at *;generalize ZF (x / 1099511627776%256)=y5 at *;generalize ZF (x / 281474976710656%256)=y6 at *;generalize ZF (x / 72057594037927936%256)=y7 at *;clear e k j b g d c h;have o:(256*(256*(256*(256*(256*(256*(256*(256*0+y7)+y6)+y5)+y4)+y3)+y2)+y1)+y0) / 256=256*(256*(256*(256*(256*(256*y7+y6)+y5)+y4)+y3)+y2)+y1:=by omega
  rw[o];clear o;have n:(256*(256*(256*(256*(256*(256*(256*(256*0+y7)+y6)+y5)+y4)+y3)+y2)+y1)+y0+(256*(256*(256*(256*(256*(256*y7+y6)+y5)+y4)+y3)+y2)+y1)) / 65536=256*(256*(256*(256*(256*y7+(y6+y7))+(y5+y6))+(y4+y5))+(y3+y4))+(y2+y3):=by omega
  rw[n];clear n;have m:(256*(256*(256*(256*(256*(256*(256*(256*0+y7)+y6)+y5)+y4)+y3)+y2)+y1)+y0+(256*(256*(256*(256*(256*(256*y7+y6)+y5)+y4)+y3)+y2)+y1)+(256*(256*(256*(256*(256*y7+(y6+y7))+(y5+y6))+(y4+y5))+(y3+y4))+(y2+y3))) / 4294967296=256*(256*(256*y7+(y6+y7))+(y5+y6+y7))+(y4+y5+y6+y7):=by omega
  rw[m];clear m;omega
 ·rw[e]
  simp only[bytesOf,List.map_cons,List.map_nil,S9];omega
def cnt(n p:Nat):Nat:=((List.range n).filter p.testBit).length
theorem KT(n p:Nat):cnt (n+1) p=p%2+cnt n (p / 2):=by
 unfold cnt;rw[io,el];have e:((List.map Nat.succ (List.range n)).filter p.testBit).length=((List.range n).filter (p / 2).testBit).length:=by
  rw[List.filter_map,aL];congr 1
  refine gE fun i _=>?_
  grind
 grind
theorem Zl(n p:Nat):cnt (n+8) p=ZF p+cnt n (p / 256):=by
 rw[show n+8=n+7+1 from rfl,KT,show n+7=n+6+1 from rfl,KT,show n+6=n+5+1 from rfl,KT,show n+5=n+4+1 from rfl,KT,show n+4=n+3+1 from rfl,KT,show n+3=n+2+1 from rfl,KT,show n+2=n+1+1 from rfl,KT,KT];unfold ZF;simp only[Nat.div_div_eq_div_mul,Nat.reduceMul];omega
theorem c0w(p:Nat):ZF (p%256)=ZF p:=by unfold ZF;omega
theorem c6k(h:x<18446744073709551616):sw x=cnt 64 x:=by
 rw[(xB h).1];simp only[c0w];rw[show(64:Nat)=56+8 from rfl,Zl,show(56:Nat)=48+8 from rfl,Zl,show(48:Nat)=40+8 from rfl,Zl,show(40:Nat)=32+8 from rfl,Zl,show(32:Nat)=24+8 from rfl,Zl,show(24:Nat)=16+8 from rfl,Zl,show(16:Nat)=8+8 from rfl,Zl,show(8:Nat)=0+8 from rfl,Zl];simp only[Nat.div_div_eq_div_mul,Nat.reduceMul];show _=_+(_+(_+(_+(_+(_+(_+(_+0)))))));omega
end Go.Pop
namespace Go.Proofs.YthlffjlbidibdaaGreatDoor
theorem c1u(h:x<18446744073709551616):Go.Pop.sw x=(Hg x).length:=Go.Pop.c6k h
end Go.Proofs.YthlffjlbidibdaaGreatDoor
namespace Go.Vm
open Go.Am
section
variable {E:Env}{L:Frame}{H:Heap}{nx:Nat}{Q:PV→Heap→Nat→Prop}{w:Bool}
variable {dst:Option Tmp}{ty:TypeId}{pos:String}{af:Array Edge}{gd:Option (Nat×Bool)}
variable {bn:Nat}{ops:Array Oper}{op:Op}{l:List Oper}{i:Nat}{R:Frame→Heap→Nat→Prop}
def d4n(E:Env)(bn d:Nat)(ops:Array Oper)(i:Nat)(l:List Oper)(L:Frame)(H:Heap)(nx:Nat)(Q:Frame→Heap→Nat→Prop):Prop :=
 ∀(B:Base),B.nx=bn→∀m F σ t,Ctx E.Γ m F σ H nx→RL m F (htag H) σ nx L t→CO t d=.slice emptyAt 0 0→B.to m F σ H nx →
  JG E.P E.O E.G ops i l ⟨t,m⟩ fun s'=>∃L' H' nx' F' σ',Q L' H' nx'∧Ctx E.Γ s'.m F' σ' H' nx'∧RL s'.m F' (htag H') σ' nx' L' s'.t∧B.to s'.m F' σ' H' nx'
end
variable {E:Env}{L:Frame}{H:Heap}{nx:Nat}
section
variable {Q:PV→Heap→Nat→Prop}{w:Bool}{dst:Option Tmp}{ty:TypeId}{pos:String}{af:Array Edge}{gd:Option (Nat×Bool)}
end
end Go.Vm
namespace Go.Proofs.YthlffjlbidibdaaGreatDoor
open Go Go.Am Go.Vm Go.Pie
attribute [local irreducible] Aa Ah Ai Ad AL Ak Bf BK Bj Aj Vm.Done Bv AP
attribute [local irreducible] Cb Bg D5 DU EF AV CB
structure Nu where
 hn:Int
 hs:Int
 fn:Int
 fs:Int
instance:Enc Nu:={ default:=⟨0,0,0,0⟩,enc:=fun x=>[.int .i64 x.hn,.int .i64 x.hs,.int .i64 x.fn,.int .i64 x.fs],size:=4,len:=fun _=>rfl }
structure Nu.Ok(y:Nu):Prop where
 hn:0≤y.hn∧y.hn≤10
 fn:0≤y.fn∧y.fn≤10
 hs:0≤y.hs∧y.hs≤127
 fs:0≤y.fs∧y.fs≤127
noncomputable instance (y:Nu):Decidable y.Ok:=Classical.propDecidable _
def CQ(s:Gj):List Int:=ES s.lo s.hi
theorem Ox:n∈Hg p↔n<64∧p.testBit n=true:=by
 unfold Hg;simp
theorem SQ:x∈CQ s↔∃n:Nat,n<128∧x=(n:Int)∧s.has n=true:=by
 unfold CQ ES;rw[bt,ba,ba];constructor
 ·rintro(⟨n,h,rfl⟩|⟨n,h,rfl⟩)
  ·obtain⟨b,a⟩:=Ox.1 h
   exact⟨n,by omega,rfl,by unfold Gj.has;grind⟩
  ·obtain⟨b,a⟩:=Ox.1 h
   refine⟨64+n,by omega,rfl,?_⟩;unfold Gj.has;grind
 ·rintro⟨n,b,rfl,a⟩
  unfold Gj.has at a;split at a
  ·rename_i h;exact .inl ⟨n,Ox.2 ⟨h,a⟩,rfl⟩
  ·rename_i h
   exact .inr ⟨n-64,Ox.2 ⟨by omega,a⟩,by omega⟩
theorem kT(p:Nat):(Hg p).Pairwise (·<·):=List.Pairwise.filter _ List.pairwise_lt_range
theorem GV(s:Gj):Inc (CQ s):=by
 refine iB.2 ⟨?_,?_,?_⟩
 ·exact fu _ (fun a b h=>by omega) (kT _)
 ·exact fu _ (fun a b h=>by omega) (kT _)
 ·intro a d b c
  obtain⟨n,e,rfl⟩:=ba.1 d;obtain⟨k,f,rfl⟩:=ba.1 c;have:=(Ox.1 e).1;omega
theorem vF(s:Gj):(CQ s).length=(Hg s.lo).length+(Hg s.hi).length:=by simp[CQ,ES]
theorem TA(s:Gj):(CQ s).length≤128:=by
 rw[vF];have:=MG s.lo;have:=MG s.hi;omega
theorem L8(h:Inc l):l.Nodup:=h.imp fun h=>by omega
theorem Ii:∀{l r:List Int},l.Nodup→(∀x∈l,x∈r)→l.length≤r.length
 |[],_,_,_=>ao _
 |a::l,r,hn,h=>by
  obtain⟨c,b⟩:=dx.1 hn;have e:=Ii (r:=r.erase a) b fun x d=>by
   grind
  grind
theorem JD(h:∀i,i<l.length→0≤gi l i∧gi l i≤127):x∈CQ (Ul l l.length)↔x∈l:=by
 rw[SQ];constructor
 ·rintro⟨n,d,rfl,c⟩
  rw[oW h n d _ (ab _),cd] at c;grind
 ·intro a
  obtain⟨i,b,e⟩:=cf.1 a;have f:gi l i=x:=by unfold gi;grind
  have:=h i b;refine⟨x.toNat,by omega,by omega,?_⟩;rw[oW h _ (by omega) _ (ab _),cd];grind
theorem uy(h:∀i,i<l.length→0≤gi l i∧gi l i≤127)(b:l.Nodup):(CQ (Ul l l.length)).length=l.length :=
 Nat.le_antisymm (Ii (L8 (GV _)) fun _ a=>(JD h).1 a) (Ii b fun _ a=>(JD h).2 a)
def wid(l:List Int):Int:=if l.length=0 then 0 else gi l (l.length-1)-gi l 0
theorem inc_le(h:Inc l)(b:i≤j)(a:j<l.length):gi l i≤gi l j:=by
 rcases aq i j with h1|h1
 ·have:=eT.1 h i j (by omega) a h1
  unfold gi;grind
 grind
theorem Ri(h:Inc l)(hs:0≤s):wid l≤s↔∀x∈l,∀y∈l,x-y≤s:=by
 unfold wid;split
 ·grind
 ·rename_i h0
  constructor
  ·intro hw x hx y hy
   obtain⟨i,hi,rfl⟩:=cf.1 hx;obtain⟨j,hj,rfl⟩:=cf.1 hy;have h1:=inc_le h (show i≤l.length-1 by omega) (by omega);have h2:=inc_le h (ao j) hj;have e1:gi l i=l[i]:=by unfold gi;grind
   have e2:gi l j=l[j]:=by unfold gi;grind
   omega
  ·intro hw
   exact hw _ (gi_mem' (by omega)) _ (gi_mem' (by omega))
end Go.Proofs.YthlffjlbidibdaaGreatDoor
namespace Go.Vm
open Go.Am
variable {E:Env}{L:Frame}{H:Heap}{nx:Nat}{Q:PV→Heap→Nat→Prop}{dst:Option Tmp}{ty:TypeId}{pos:String}{af:Array Edge}{gd:Option (Nat×Bool)}{w:Bool}
theorem a5u(h:a<2^64):a / b<2^64:=cK (Nat.div_le_self _ _) h
theorem lp{a b:Nat}(r:Nat)(e:AY E.Γ L x=some (.p (.int .u64 (a:Int))))(d:AY E.Γ L y=some (.p (.int .u64 (b:Int))))(f:a+b=r)(h:r<18446744073709551616)(q:Q (.p (.int .u64 (r:Int))) H nx) :
 Aa E w ⟨dst,.binOp .add t x y c,ty,pos,af,gd⟩ L H nx Q:=mI e d (by omega) (by grind)
theorem lN{a b:Nat}(r:Nat)(e:AY E.Γ L x=some (.p (.int .u64 (a:Int))))(d:AY E.Γ L y=some (.p (.int .u64 (b:Int))))(g:a &&& b=r)(h:a<2^64)(f:b<2^64)(q:Q (.p (.int .u64 (r:Int))) H nx) :
 Aa E w ⟨dst,.binOp .and t x y c,ty,pos,af,gd⟩ L H nx Q:=oX e d h f (by grind)
end Go.Vm
namespace Go.Proofs.YthlffjlbidibdaaGreatDoor
open Go Go.Am Go.Vm Go.Pie
attribute [local irreducible] Aa Ah Ai Ad AL Ak Bf BK Bj Aj Vm.Done Bv AP
theorem lZ(x:Nat)(z:x<18446744073709551616):Ak env 72 [.int .u64 (x:Int)] (.p (.int .i64 (((Hg x).length:Nat):Int))):=by
 obtain⟨o,N,J⟩:=(Pop.xB z).2;have I:=c1u z;obtain⟨A,e⟩:∃A,A=Pop.swA x:=⟨_,rfl⟩
 obtain⟨B,d⟩:∃B,B=Pop.swB A:=⟨_,rfl⟩
 obtain⟨C,c⟩:∃C,C=Pop.swC B:=⟨_,rfl⟩
 obtain⟨D,n⟩:∃D,D=Pop.swD C:=⟨_,rfl⟩
 obtain⟨F,m⟩:∃F,F=Pop.swE D:=⟨_,rfl⟩
 obtain⟨G,k⟩:∃G,G=Pop.swF F:=⟨_,rfl⟩
 rw[← e] at o N J;rw[← d] at o J;rw[← c] at o;have m1:∀a b:Nat,b<18446744073709551616→a &&& b<18446744073709551616:=fun a b h=>cK Nat.and_le_right h
 obtain⟨j,y⟩:∃j,x / 2^1 &&& 6148914691236517205=j:=⟨_,rfl⟩
 obtain⟨g,u⟩:∃g,x &&& 6148914691236517205=g:=⟨_,rfl⟩
 obtain⟨b1,s⟩:∃b1,A / 2^2 &&& 3689348814741910323=b1:=⟨_,rfl⟩
 obtain⟨b2,r⟩:∃b2,A &&& 3689348814741910323=b2:=⟨_,rfl⟩
 obtain⟨f,q⟩:∃f,B / 2^4+B=f:=⟨_,rfl⟩
 have W:j+g=A:=by rw[← y,← u];exact e.symm
 have V:b1+b2=B:=by rw[← s,← r];exact d.symm
 have U:f &&& 1085102592571150095=C:=by rw[← q];exact c.symm
 have T:C+C / 2^8=D:=n.symm;have S:D+D / 2^16=F:=m.symm;have P:F+F / 2^32=G:=k.symm;have K:G &&& 127=(Hg x).length:=by rw[← I];unfold Pop.sw;rw[← e,← d,← c,← n,← m,← k]
 clear e d c n m k I;obtain⟨Z,M⟩:∃Z,Z=(Hg x).length:=⟨_,rfl⟩
 rw[← M] at K ⊢;have O:PV.p (.int .i64 ((G &&& 127:Nat):Int))=PV.p (.int .i64 (Z:Int)):=by rw[K]
 refine Ak.enter (Af (by decide)) Tryz.func72 rfl (by kernel_rfl) (by simp[Tryz.ntmps72]) ?_
 repeat' (first|(apply lN j;rfl;rfl;exact y;exact a5u (by omega);exact AZ rfl)|(apply lN g;rfl;rfl;exact u;omega;exact AZ rfl)|(apply lN b1;rfl;rfl;exact s;exact a5u (by omega);exact AZ rfl)|(apply lN b2;rfl;rfl;exact r;omega;exact AZ rfl)|(apply oY;rfl;rfl;exact⟨by omega,AZ rfl⟩)|(apply lp f;rfl;rfl;exact q;omega)|(apply lp A;rfl;rfl;exact W;omega)|(apply lp B;rfl;rfl;exact V;omega)|(apply lp D;rfl;rfl;exact T;omega)|(apply lp F;rfl;rfl;exact S;omega)|(apply lp G;rfl;rfl;exact P;omega)|(apply lN C;rfl;rfl;exact U;omega;exact AZ rfl)|refine go1 ?_|refine eR ?_|(apply ld;rfl;rfl;(simp only[IntKind.bits];omega)))
 all_goals first|omega|((refine aa ?_;try rfl);exact O;done)|(refine aa ?_;try rfl)
theorem dP(s:Gj)(a:s.Ok):Ak env 36 [.agg (Enc.enc s)] (.p (.int .i64 (((CQ s).length:Nat):Int))):=by
 have c:=lZ s.lo a.lo;have b:=lZ s.hi a.hi;have b1:=MG s.lo;have b2:=MG s.hi;rw[vF];refine Ak.enter (Af (by decide)) Tryz.func36 rfl (by kernel_rfl) (by simp[Tryz.ntmps36]) ?_
 repeat' (first|refine a6 c ?_|refine a6 b ?_|refine KP ?_|fail)
 all_goals first|omega|(refine aa ?_;try rfl)
theorem jI(l:List Int)(hl:l.length≤128)(h:∀x∈l,0≤x∧x≤127):Ak env 75 [.lst 3 (cells l) l.length] (.p (.int .i64 (wid l))):=by
 unfold wid;by_cases h0:l.length=0
 ·rw[if_pos h0]
  refine Ak.enter (Af (by decide)) Tryz.func75 rfl (by kernel_rfl) (by simp[Tryz.ntmps75]) ?_
  repeat' (first|refine Fj ?_|(apply a8;rfl)|(intro _;try omega))
  all_goals first|omega|(refine aa ?_;try rfl)
 ·rw[if_neg h0]
  have h1:=h _ (gi_mem' (show l.length-1<l.length by omega));have h2:=h _ (gi_mem' (show 0<l.length by omega));have hn:(l.length:Int)-1=((l.length-1:Nat):Int):=by omega
  have hz:@gi Int Enc.toInhabited l (nat_lit 0)=gi l 0:=rfl;refine Ak.enter (Af (by decide)) Tryz.func75 rfl (by kernel_rfl) (by simp[Tryz.ntmps75]) ?_
  repeat' (first|(apply dl (l:=l) (i:=l.length-1);rfl;exact congrArg (fun b=>some (PV.p (.int .i64 b))) hn;rfl;omega;rfl)|refine b9 (l:=l) (i:=0) ?_|refine KP ?_|refine a7 ?_|(apply a8;rfl)|(intro _;try omega))
  all_goals first|omega|(refine aa ?_;try rfl)
def En(y:Nu)(l:List Int):Prop:=(l.length:Int)≤y.hn∧wid l≤y.hs
instance (y:Nu) (l:List Int):Decidable (En y l):=inferInstanceAs (Decidable (_∧_))
theorem jm(y:Nu)(l:List Int)(d:l.length≤128)(h:∀x∈l,0≤x∧x≤127):Ak env 40 [.agg (Enc.enc y),.lst 3 (cells l) l.length] (.p (.bool (decide (En y l)))):=by
 have c:=jI l d h;by_cases b:(l.length:Int)≤y.hn;all_goals by_cases a:wid l≤y.hs
 all_goals first|rw[decide_eq_true (p:=En y l) ⟨b,a⟩]|rw[decide_eq_false (p:=En y l) (fun h=>b h.1)]|rw[decide_eq_false (p:=En y l) (fun h=>a h.2)]
 all_goals generalize wid l=W at *
 all_goals
  refine Ak.enter (Af (by decide)) Tryz.func40 rfl (by kernel_rfl) (by simp[Tryz.ntmps40]) ?_
 all_goals
  repeat' (first|refine a6 c ?_|refine KP ?_|(apply Ai.guard;rfl;rfl)|refine a7 ?_|(intro _;try omega))
 all_goals first|omega|(refine aa ?_;try rfl)
 all_goals first|exact kx (decide_eq_true (by omega))|exact kx (decide_eq_false (by omega))|exact kx (by simp;omega)
end Go.Proofs.YthlffjlbidibdaaGreatDoor
