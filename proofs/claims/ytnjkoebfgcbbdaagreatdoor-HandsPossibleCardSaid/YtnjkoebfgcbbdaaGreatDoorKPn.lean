/-
  Texts of a proof, merged (HanB, HanC, HanD, HanE, HanF, Vm35, PieK, HanG, HanH, HanI, HanJ). Conditions: in each statement.
-/
import Derived.Test.YtnjkoebfgcbbdaaGreatDoorKPm
set_option linter.unusedSimpArgs false
set_option linter.unusedVariables false
set_option linter.unusedSectionVars false
set_option maxRecDepth 100000
set_option maxHeartbeats 8000000
abbrev ic:=@List.replicate_succ'
abbrev il:=@List.take_set_of_le
namespace Go.Proofs.YtnjkoebfgcbbdaaGreatDoor
open Go Go.Am Go.Vm Go.Pie
attribute [local irreducible] Aa Aj Ag Ad AL Ak Bd BL Bl Ai Vm.Done BD AO
attribute [local irreducible] CJ Bf Eb DW EF A8 Cj
structure Qu where
 o:FQ
 p:Fe
 y:Na
instance:Enc Qu:={ default:=⟨default,default,default⟩,enc:=fun x=>Enc.enc x.o++(Enc.enc x.p++Enc.enc x.y),size:=11,len:=fun x=>by rw[aD,aD,Enc.len,Enc.len,Enc.len];rfl }
structure KE(q:Qu):Prop where
 o:WO q.o
 e:Ui q.o q.p=0
 p:pV q.o q.p
 y:q.y.Ok
def Gj(q:Qu)(i:Nat):Bool:=(gi q.o.Ae (gi q.p.notes i).d.toNat).FC
def iF(q:Qu)(N:List Int):Prop:=∀i,i<N.length→0≤gi N i∧gi N i<q.p.notes.length
theorem TQ(q:Qu)(c:KE q)(i:Nat)(g:i<q.p.notes.length):D7 env 85 ([.p (.agg (Enc.enc q)),.p (.int .i64 (i:Int))]++[]) [] 0 (.bool (Gj q i)):=by
 have a:=c.p.note i g;obtain⟨j,f⟩:∃j:Nat,(gi q.p.notes i).d=(j:Int):=⟨(gi q.p.notes i).d.toNat,by have:=a.d;omega⟩
 have e:j<q.o.Ae.length:=by have:=a.d;omega
 have h:Gj q i=(gi q.o.Ae j).FC:=by unfold Gj;grind
 rw[h];refine D7.enter (Af (by decide)) Tryz.func85 rfl (by kernel_rfl) (by simp) ?_
 repeat' (first|(apply Aa.Ap (l:=q.p.notes) (i:=i);rfl;rfl;rfl;omega;rfl)|(apply Aa.Ap (l:=q.o.Ae) (i:=j);rfl;exact congrArg (fun b=>some (PV.p (.int .i64 b))) f;rfl;omega;rfl)|refine go2 ?_|fail)
 all_goals first|(exfalso;omega)|(refine Done.ret rfl (.refl _) trivial ?_ (by omega) (ab _) ⟨?_,rfl,rfl⟩;exact Ec;try rfl)
def hasB(l:List Int)(h:Int)(i:Nat):Bool:=decide (gi l i=h)
def lhB(l:List Int)(h:Int):Heap:=[(0,.box 28 [.p (.lst 3 (cells l) l.length)]),(1,.box 3 [.p (.int .i64 h)])]
theorem a0k(l:List Int)(h:Int)(i:Nat)(a:i<l.length):D7 env 124 ([.p (.int .i64 (i:Int))]++[.ref 0 0,.ref 1 0]) (lhB l h) 2 (.bool (hasB l h i)):=by
 unfold lhB hasB;refine D7.enter (Af (by decide)) Tryz.func124 rfl (by kernel_rfl) (by simp[Tryz.ntmps124]) ?_
 repeat' (first|(apply Aa.Ap;rfl;rfl;rfl;omega;rfl)|refine JD ?_|fail)
 all_goals first|(exfalso;omega)|(refine Done.ret rfl (.refl _) trivial ?_ (by omega) (ab _) ⟨?_,rfl,rfl⟩;exact Ec;try rfl)
theorem a3r(i:Nat):D7 env 63 ([.p (.int .i64 (i:Int))]++[]) [] 0 (.bool true):=by
 refine D7.enter (Af (by decide)) Tryz.func63 rfl (by kernel_rfl) (by simp) ?_
 repeat' (first|refine go2 ?_|fail)
 all_goals first|(exfalso;omega)|(refine Done.ret rfl (.refl _) trivial ?_ (by omega) (ab _) ⟨?_,rfl,rfl⟩;exact Ec;try rfl)
def YS(p:Fe)(N:List Int)(is:Nat→Bool)(d:Nat):Nat→List Int
 |0=>[]
 |k+1=>if is (gi N k).toNat=true∧(gi p.notes (gi N k).toNat).d=(d:Int) then YS p N is d k++[(gi p.notes (gi N k).toNat).k] else YS p N is d k
theorem Gv(p:Fe)(N:List Int)(is:Nat→Bool)(d k:Nat):YS p N is d (k+1)=if is (gi N k).toNat=true∧(gi p.notes (gi N k).toNat).d=(d:Int) then YS p N is d k++[(gi p.notes (gi N k).toNat).k] else YS p N is d k:=rfl
def Vb(p:Fe)(N:List Int)(is:Nat→Bool)(k d:Nat):FP:=Y1 (YS p N is d k) (YS p N is d k).length
theorem ofK_left'(l:List Int)(x:Int):∀k,k≤l.length→Y1 (l++[x]) k=Y1 l k
 |0,_=>rfl
 |k+1,h=>by
  show FD (Y1 (l++[x]) k) (gi (l++[x]) k).toNat=FD (Y1 l k) (gi l k).toNat;rw[ofK_left' l x k (by omega),OD (by omega)]
theorem ofK_snoc'(l:List Int)(x:Int):Y1 (l++[x]) (l++[x]).length=FD (Y1 l l.length) x.toNat:=by
 rw[aD];show FD (Y1 (l++[x]) l.length) (gi (l++[x]) l.length).toNat=_;rw[ofK_left' l x _ (ab _),Oh]
theorem wP(p:Fe)(N:List Int)(is:Nat→Bool)(k d:Nat):Vb p N is (k+1) d=if is (gi N k).toNat=true∧(gi p.notes (gi N k).toNat).d=(d:Int) then FD (Vb p N is k d) (gi p.notes (gi N k).toNat).k.toNat else Vb p N is k d:=by
 unfold Vb;rw[Gv];split
 ·exact ofK_snoc' _ _
 ·rfl
theorem VE(p:Fe)(N:List Int)(is:Nat→Bool):∀n,List.replicate n (⟨0,0⟩:FP)=Bc (Vb p N is 0) n
 |0=>rfl
 |n+1=>by
  rw[ic,VE p N is n];rfl
theorem oM{p:Fe}{N:List Int}{is:Nat→Bool}{k n j:Nat}(b:j<n)(c:is (gi N k).toNat=true)(h:(gi p.notes (gi N k).toNat).d=(j:Int)):(Bc (Vb p N is k) n).set j (FD (gi (Bc (Vb p N is k) n) j) (gi p.notes (gi N k).toNat).k.toNat)=Bc (Vb p N is (k+1)) n:=by
 refine La (by rw[cN,Cc,Cc]) fun i a=>?_
 rw[cN,Cc] at a;rw[G5,Dy _ a,Dy _ a,Dy _ b,Cc,wP];grind
theorem ZO{p:Fe}{N:List Int}{is:Nat→Bool}{k n:Nat}(a:is (gi N k).toNat=false):Bc (Vb p N is (k+1)) n=Bc (Vb p N is k) n:=MR fun d _=>by
 rw[wP,if_neg (fun h=>by grind)]
theorem PK{q:Qu}(b:KE q){N:List Int}(g:iF q N){is:Nat→Bool}{d:Nat}:∀k,k≤N.length→∀i,i<(YS q.p N is d k).length→0≤gi (YS q.p N is d k) i∧gi (YS q.p N is d k) i≤127
 |0,_,i,a=>absurd a (bd _)
 |k+1,hk,i,a=>by
  have h:=PK b g (is:=is) (d:=d) k (by omega);rw[Gv] at a ⊢;split
  ·rename_i c
   rw[if_pos c,aD] at a;have a:i<(YS q.p N is d k).length+1:=a;by_cases e:i<(YS q.p N is d k).length
   ·rw[OD e];grind
   ·obtain rfl:i=(YS q.p N is d k).length:=by omega
    rw[Oh];have j:=g k (by omega);have f:=b.p.note (gi N k).toNat (by omega);have l:=b.o.cmp (i:=(gi q.p.notes (gi N k).toNat).d.toNat) (by have:=f.d;omega);have:=f.k;omega
  grind
theorem aP(a:FP)(n:Nat):Vp a (FD ⟨0,0⟩ n)=FD a n:=by
 unfold Vp FD;split<;>simp
def Iu(q:Qu)(N:List Int)(is:Nat→Bool):List FP:=Bc (Vb q.p N is N.length) q.o.Ae.length
theorem zn(q:Qu)(f:KE q)(N:List Int)(R:iF q N)(X:N.length≤1000):D7 env 62 [.p (.agg (Enc.enc q)),.p (.lst 3 (cells N) N.length),.clo 85 [.p (.agg (Enc.enc q))] []] [] 0 (.lst 84 (cells (Iu q N (Gj q))) (Iu q N (Gj q)).length):=by
 have J:=fun m a=>TQ q f m a
 generalize hIs:Gj q=is at *;have Y:=f.p.notes;have d1:=f.o.Ae;have M:=VE q.p N is q.o.Ae.length;have O:(Iu q N is).length=q.o.Ae.length:=Cc _ _;rw[O];unfold Iu;refine D7.enter (Af (by decide)) Tryz.func62 rfl (by kernel_rfl) (by simp[Tryz.ntmps62]) ?_
 repeat' (first|(apply Aa.JQ q.o.Ae.length (⟨0,0⟩:FP);rfl;rfl;rfl;rfl;rfl;rfl;rfl;omega;decide;decide;rfl)|refine go2 ?_|fail)
 all_goals try(exfalso;omega)
 rw[M];apply Ad.GU (N.length) [(2,_),(3,_),(7,_),(18,_),(19,_)] [(0,_)] (fun k r=>(20,.p (.int .i64 (k:Int)))::r) (fun k r=>(1,.vec 84 (cells (Bc (Vb q.p N is k) q.o.Ae.length)) q.o.Ae.length false)::r) 2
 ·first|omega|decide
 ·first|omega|decide
 ·exact Qb
 ·exact Tt
 ·intro k T
  obtain⟨g1,Z⟩:=R k T;obtain⟨m,a⟩:∃m:Nat,gi N k=(m:Int):=⟨(gi N k).toNat,by omega⟩
  have u:m<q.p.notes.length:=by omega
  have x:=J m u;rw[← a] at x;cases g:is m with
  |false =>
   have h:=ZO (p:=q.p) (N:=N) (is:=is) (k:=k) (n:=q.o.Ae.length) (by rw[a,aE];exact g);rw[g] at x
   repeat' (first|(apply Aa.read [] x;rfl;rfl;exact .of_eq rfl;exact CV.AA rfl;exact Dk rfl;(repeat(first|exact trivial|refine⟨⟨_,rfl,.of_eq rfl⟩,?_⟩));decide;(intro _ K;simp at K<;>omega);rfl)|(apply Aa.Ap;rfl;rfl;rfl;omega;rfl)|refine go2 ?_|(apply Aa.int;rfl;rfl;rfl)|(apply Ad.Ac;rfl)|(apply Ad.cond_false;rfl)|(intro _;try(exfalso;omega)))
   all_goals try(exfalso;omega)
   all_goals try contradiction
   refine Ai.normal ⟨by first|omega|decide,?_,?_⟩
   ·try(rw[h])
    exact Du
   ·rw[h]
    exact Ec
  |true =>
   have e:=f.p.note m u;obtain⟨j,I⟩:∃j:Nat,(gi q.p.notes m).d=(j:Int):=⟨(gi q.p.notes m).d.toNat,by have:=e.d;omega⟩
   have c:j<q.o.Ae.length:=by have:=e.d;omega
   have U:=f.o.cmp (i:=j) c;have G:=e.k;rw[I,aE] at G;obtain⟨z,P⟩:∃z:Nat,(gi q.p.notes m).k=(z:Int):=⟨(gi q.p.notes m).k.toNat,by omega⟩
   have A:z<128:=by omega
   have h:=oM (p:=q.p) (N:=N) (is:=is) (k:=k) c (by rw[a,aE];exact g) (by rw[a,aE];exact I);rw[a,aE,P,aE,← aP] at h;have S:(Bc (Vb q.p N is k) q.o.Ae.length).length=q.o.Ae.length:=Cc _ _;have C:(gi (Bc (Vb q.p N is k) q.o.Ae.length) j).Ok:=by
    rw[Dy _ c];exact Wn (PK f R k (by omega)) _ (ab _)
   have s:=VT [(gi q.p.notes m).k] (by simp) (fun i g=>by
    have:i=0:=by simpa using g
    subst this;show 0≤(gi q.p.notes m).k∧(gi q.p.notes m).k≤127;omega)
   have F:Y1 [(gi q.p.notes m).k] [(gi q.p.notes m).k].length=FD ⟨0,0⟩ z:=by
    show FD ⟨0,0⟩ ((gi q.p.notes m).k).toNat=_;rw[P,aE]
   rw[F] at s;have B:=MZ (gi (Bc (Vb q.p N is k) q.o.Ae.length) j) (FD ⟨0,0⟩ z) C (Rh NR A);rw[g] at x;generalize Bc (Vb q.p N is k) q.o.Ae.length=V at *;generalize hW:(FD ⟨0,0⟩ z:FP)=W at *
   repeat' (first|(refine Aj.Il 37 ?_;refine Aj.ghost (Aq.freeze 36 rfl rfl) ?_)|apply Ad.Bo|apply Ad.region|apply Ad.E5|apply Ad.FH|apply Ad.EG|apply BL.normal|apply Bl.normal|apply Aj.nil|apply Ag.nil|apply Aj.one|(apply Ag.bar;decide +kernel)|apply Ag.quiet|(apply Aa.read [] x;rfl;rfl;exact .of_eq rfl;exact CV.AA rfl;exact Dk rfl;(repeat(first|exact trivial|refine⟨⟨_,rfl,.of_eq rfl⟩,?_⟩));decide;(intro _ K;simp at K<;>omega);rfl)|(apply Aa.fn;rfl;rfl;exact s;intro _;rfl)|(apply Aa.fn;rfl;rfl;exact B;intro _;rfl)|(apply Aa.Ap (l:=q.p.notes) (i:=m);rfl;exact congrArg (fun b=>some (PV.p (.int .i64 b))) a;rfl;omega;rfl)|(apply Aa.DV (l:=V) (i:=j);rfl;rfl;exact congrArg (fun b=>some (PV.p (.int .i64 b))) I;rfl;omega)|(apply Aa.OT (l:=V) (i:=j);rfl;rfl;omega;rfl)|(apply Aa.J9 (l:=V) (i:=j) (y:=Vp (gi V j) W);rfl;rfl;rfl;trivial;rfl;rfl;rfl;decide;omega)|(apply Aa.assign;rfl)|(apply Aa.move;rfl)|(apply Aa.MH;rfl;rfl;omega)|(apply Aa.int;rfl;rfl;rfl)|(apply Aa.Ap;rfl;rfl;rfl;omega;rfl)|(apply Aa.load;rfl;rfl)|(apply Aa.HY;rfl;rfl;rfl)|(apply Aa.alloc;rfl)|(apply Aa.Gl;rfl;rfl;rfl;trivial;rfl;rfl;exact Ba rfl;exact le_dec rfl)|(apply Aa.buildSlice;rfl;rfl;rfl;decide;rfl;rfl;rfl)|(apply Aa.extract;rfl;rfl)|(apply Ad.Ac;rfl)|(apply Ad.cond_true;rfl)|(intro _;try(exfalso;omega)))
   all_goals try(exfalso;omega)
   all_goals try contradiction
   refine Ai.normal ⟨by first|omega|decide,?_,?_⟩
   ·try(rw[← h])
    exact Du
   ·rw[← h]
    exact Ec
 ·repeat' (first|(refine Ad.at 10 ?_;refine Ad.ghost (Aq.freeze 7 rfl rfl) ?_;first|apply Ad.Bo|apply Ad.Ce)|apply Ad.Bo|refine go0 ?_|(apply Ad.Ac;rfl)|(intro _;try(exfalso;omega)))
  all_goals first|(exfalso;omega)|(refine Done.ret rfl (.refl _) trivial ?_ (by omega) (ab _) ⟨?_,rfl,rfl⟩;exact Ec;try rfl)
theorem zq(q:Qu)(s:KE q)(N:List Int)(S:iF q N)(Y:N.length≤1000)(l:List Int)(h:Int)(hl:l.length=q.p.notes.length):D7 env 62 [.p (.agg (Enc.enc q)),.p (.lst 3 (cells N) N.length),.clo 124 [] [.ref 0 0,.ref 1 0]] (lhB l h) 2 (.lst 84 (cells (Iu q N (hasB l h))) (Iu q N (hasB l h)).length):=by
 have K:=fun m (a:m<q.p.notes.length)=>a0k l h m (by omega)
 generalize hIs:hasB l h=is at *;unfold lhB at *;have Z:=s.p.notes;have d1:=s.o.Ae;have O:=VE q.p N is q.o.Ae.length;have P:(Iu q N is).length=q.o.Ae.length:=Cc _ _;rw[P];unfold Iu;refine D7.enter (Af (by decide)) Tryz.func62 rfl (by kernel_rfl) (by simp[Tryz.ntmps62]) ?_
 repeat' (first|(apply Aa.JQ q.o.Ae.length (⟨0,0⟩:FP);rfl;rfl;rfl;rfl;rfl;rfl;rfl;omega;decide;decide;rfl)|refine go2 ?_|fail)
 all_goals try(exfalso;omega)
 rw[O];apply Ad.GU (N.length) [(2,_),(3,_),(7,_),(18,_),(19,_)] [(0,_),(1,_),(2,_)] (fun k r=>(20,.p (.int .i64 (k:Int)))::r) (fun k r=>(3,.vec 84 (cells (Bc (Vb q.p N is k) q.o.Ae.length)) q.o.Ae.length false)::r) 4
 ·first|omega|decide
 ·first|omega|decide
 ·exact Qb
 ·exact Tt
 ·intro k U
  obtain⟨g1,g2⟩:=S k U;obtain⟨m,a⟩:∃m:Nat,gi N k=(m:Int):=⟨(gi N k).toNat,by omega⟩
  have x:m<q.p.notes.length:=by omega
  have A:=K m x;rw[← a] at A;cases f:is m with
  |false =>
   have g:=ZO (p:=q.p) (N:=N) (is:=is) (k:=k) (n:=q.o.Ae.length) (by rw[a,aE];exact f);rw[f] at A
   repeat' (first|(apply Aa.read [0,1] A;rfl;rfl;exact .of_eq rfl;exact CV.AA rfl;exact Dk rfl;(repeat(first|exact trivial|refine⟨⟨_,rfl,.of_eq rfl⟩,?_⟩));decide;(intro _ M;simp at M<;>omega);rfl)|(apply Aa.Ap;rfl;rfl;rfl;omega;rfl)|refine go2 ?_|(apply Aa.int;rfl;rfl;rfl)|(apply Ad.Ac;rfl)|(apply Ad.cond_false;rfl)|(intro _;try(exfalso;omega)))
   all_goals try(exfalso;omega)
   all_goals try contradiction
   refine Ai.normal ⟨by first|omega|decide,?_,?_⟩
   ·try(rw[g])
    exact Du
   ·rw[g]
    exact Ec
  |true =>
   have e:=s.p.note m x;obtain⟨j,J⟩:∃j:Nat,(gi q.p.notes m).d=(j:Int):=⟨(gi q.p.notes m).d.toNat,by have:=e.d;omega⟩
   have c:j<q.o.Ae.length:=by have:=e.d;omega
   have X:=s.o.cmp (i:=j) c;have I:=e.k;rw[J,aE] at I;obtain⟨z,R⟩:∃z:Nat,(gi q.p.notes m).k=(z:Int):=⟨(gi q.p.notes m).k.toNat,by omega⟩
   have B:z<128:=by omega
   have g:=oM (p:=q.p) (N:=N) (is:=is) (k:=k) c (by rw[a,aE];exact f) (by rw[a,aE];exact J);rw[a,aE,R,aE,← aP] at g;have T:(Bc (Vb q.p N is k) q.o.Ae.length).length=q.o.Ae.length:=Cc _ _;have F:(gi (Bc (Vb q.p N is k) q.o.Ae.length) j).Ok:=by
    rw[Dy _ c];exact Wn (PK s S k (by omega)) _ (ab _)
   have u:=VT [(gi q.p.notes m).k] (by simp) (fun i f=>by
    have:i=0:=by simpa using f
    subst this;show 0≤(gi q.p.notes m).k∧(gi q.p.notes m).k≤127;omega)
   have G:Y1 [(gi q.p.notes m).k] [(gi q.p.notes m).k].length=FD ⟨0,0⟩ z:=by
    show FD ⟨0,0⟩ ((gi q.p.notes m).k).toNat=_;rw[R,aE]
   rw[G] at u;have C:=MZ (gi (Bc (Vb q.p N is k) q.o.Ae.length) j) (FD ⟨0,0⟩ z) F (Rh NR B);rw[f] at A;generalize Bc (Vb q.p N is k) q.o.Ae.length=V at *;generalize hW:(FD ⟨0,0⟩ z:FP)=W at *
   repeat' (first|(refine Aj.Il 37 ?_;refine Aj.ghost (Aq.freeze 36 rfl rfl) ?_)|apply Ad.Bo|apply Ad.region|apply Ad.E5|apply Ad.FH|apply Ad.EG|apply BL.normal|apply Bl.normal|apply Aj.nil|apply Ag.nil|apply Aj.one|(apply Ag.bar;decide +kernel)|apply Ag.quiet|(apply Aa.read [0,1] A;rfl;rfl;exact .of_eq rfl;exact CV.AA rfl;exact Dk rfl;(repeat(first|exact trivial|refine⟨⟨_,rfl,.of_eq rfl⟩,?_⟩));decide;(intro _ M;simp at M<;>omega);rfl)|(apply Aa.fn;rfl;rfl;exact u;intro _;rfl)|(apply Aa.fn;rfl;rfl;exact C;intro _;rfl)|(apply Aa.Ap (l:=q.p.notes) (i:=m);rfl;exact congrArg (fun b=>some (PV.p (.int .i64 b))) a;rfl;omega;rfl)|(apply Aa.DV (l:=V) (i:=j);rfl;rfl;exact congrArg (fun b=>some (PV.p (.int .i64 b))) J;rfl;omega)|(apply Aa.OT (l:=V) (i:=j);rfl;rfl;omega;rfl)|(apply Aa.J9 (l:=V) (i:=j) (y:=Vp (gi V j) W);rfl;rfl;rfl;trivial;rfl;rfl;rfl;decide;omega)|(apply Aa.assign;rfl)|(apply Aa.move;rfl)|(apply Aa.MH;rfl;rfl;omega)|(apply Aa.int;rfl;rfl;rfl)|(apply Aa.Ap;rfl;rfl;rfl;omega;rfl)|(apply Aa.load;rfl;rfl)|(apply Aa.HY;rfl;rfl;rfl)|(apply Aa.alloc;rfl)|(apply Aa.Gl;rfl;rfl;rfl;trivial;rfl;rfl;exact Ba rfl;exact le_dec rfl)|(apply Aa.buildSlice;rfl;rfl;rfl;decide;rfl;rfl;rfl)|(apply Aa.extract;rfl;rfl)|(apply Ad.Ac;rfl)|(apply Ad.cond_true;rfl)|(intro _;try(exfalso;omega)))
   all_goals try(exfalso;omega)
   all_goals try contradiction
   refine Ai.normal ⟨by first|omega|decide,?_,?_⟩
   ·try(rw[← g])
    exact Du
   ·rw[← g]
    exact Ec
 ·repeat' (first|(refine Ad.at 10 ?_;refine Ad.ghost (Aq.freeze 7 rfl rfl) ?_;first|apply Ad.Bo|apply Ad.Ce)|apply Ad.Bo|refine go0 ?_|(apply Ad.Ac;rfl)|(intro _;try(exfalso;omega)))
  all_goals first|(exfalso;omega)|(refine Done.ret rfl (.refl _) trivial ?_ (by omega) (ab _) ⟨?_,rfl,rfl⟩;exact Ec;try rfl)
theorem yF(q:Qu)(h:KE q)(N:List Int)(S:iF q N)(Y:N.length≤1000):D7 env 62 [.p (.agg (Enc.enc q)),.p (.lst 3 (cells N) N.length),.clo 63 [] []] [] 0 (.lst 84 (cells (Iu q N fun _=>true)) (Iu q N fun _=>true).length):=by
 obtain⟨is,A⟩:∃is:Nat→Bool,is=fun _=>true:=⟨_,rfl⟩
 have K:∀m,m<q.p.notes.length→D7 env 63 ([.p (.int .i64 (m:Int))]++[]) [] 0 (.bool (is m)):=fun m _=>by rw[A];exact a3r m
 rw[← A];have Z:=h.p.notes;have d1:=h.o.Ae;have O:=VE q.p N is q.o.Ae.length;have P:(Iu q N is).length=q.o.Ae.length:=Cc _ _;rw[P];unfold Iu;refine D7.enter (Af (by decide)) Tryz.func62 rfl (by kernel_rfl) (by simp[Tryz.ntmps62]) ?_
 repeat' (first|(apply Aa.JQ q.o.Ae.length (⟨0,0⟩:FP);rfl;rfl;rfl;rfl;rfl;rfl;rfl;omega;decide;decide;rfl)|refine go2 ?_|fail)
 all_goals try(exfalso;omega)
 rw[O];apply Ad.GU (N.length) [(2,_),(3,_),(7,_),(18,_),(19,_)] [(0,_)] (fun k r=>(20,.p (.int .i64 (k:Int)))::r) (fun k r=>(1,.vec 84 (cells (Bc (Vb q.p N is k) q.o.Ae.length)) q.o.Ae.length false)::r) 2
 ·first|omega|decide
 ·first|omega|decide
 ·exact Qb
 ·exact Tt
 ·intro k U
  obtain⟨g1,g2⟩:=S k U;obtain⟨m,e⟩:∃m:Nat,gi N k=(m:Int):=⟨(gi N k).toNat,by omega⟩
  have u:m<q.p.notes.length:=by omega
  have x:=K m u;rw[← e] at x;cases f:is m with
  |false =>
   have g:=ZO (p:=q.p) (N:=N) (is:=is) (k:=k) (n:=q.o.Ae.length) (by rw[e,aE];exact f);rw[f] at x
   repeat' (first|(apply Aa.read [] x;rfl;rfl;exact .of_eq rfl;exact CV.AA rfl;exact Dk rfl;(repeat(first|exact trivial|refine⟨⟨_,rfl,.of_eq rfl⟩,?_⟩));decide;(intro _ M;simp at M<;>omega);rfl)|(apply Aa.Ap;rfl;rfl;rfl;omega;rfl)|refine go2 ?_|(apply Aa.int;rfl;rfl;rfl)|(apply Ad.Ac;rfl)|(apply Ad.cond_false;rfl)|(intro _;try(exfalso;omega)))
   all_goals try(exfalso;omega)
   all_goals try contradiction
   refine Ai.normal ⟨by first|omega|decide,?_,?_⟩
   ·try(rw[g])
    exact Du
   ·rw[g]
    exact Ec
  |true =>
   have c:=h.p.note m u;obtain⟨j,J⟩:∃j:Nat,(gi q.p.notes m).d=(j:Int):=⟨(gi q.p.notes m).d.toNat,by have:=c.d;omega⟩
   have a:j<q.o.Ae.length:=by have:=c.d;omega
   have X:=h.o.cmp (i:=j) a;have I:=c.k;rw[J,aE] at I;obtain⟨z,R⟩:∃z:Nat,(gi q.p.notes m).k=(z:Int):=⟨(gi q.p.notes m).k.toNat,by omega⟩
   have B:z<128:=by omega
   have g:=oM (p:=q.p) (N:=N) (is:=is) (k:=k) a (by rw[e,aE];exact f) (by rw[e,aE];exact J);rw[e,aE,R,aE,← aP] at g;have T:(Bc (Vb q.p N is k) q.o.Ae.length).length=q.o.Ae.length:=Cc _ _;have F:(gi (Bc (Vb q.p N is k) q.o.Ae.length) j).Ok:=by
    rw[Dy _ a];exact Wn (PK h S k (by omega)) _ (ab _)
   have s:=VT [(gi q.p.notes m).k] (by simp) (fun i f=>by
    have:i=0:=by simpa using f
    subst this;show 0≤(gi q.p.notes m).k∧(gi q.p.notes m).k≤127;omega)
   have G:Y1 [(gi q.p.notes m).k] [(gi q.p.notes m).k].length=FD ⟨0,0⟩ z:=by
    show FD ⟨0,0⟩ ((gi q.p.notes m).k).toNat=_;rw[R,aE]
   rw[G] at s;have C:=MZ (gi (Bc (Vb q.p N is k) q.o.Ae.length) j) (FD ⟨0,0⟩ z) F (Rh NR B);rw[f] at x;generalize Bc (Vb q.p N is k) q.o.Ae.length=V at *;generalize hW:(FD ⟨0,0⟩ z:FP)=W at *
   repeat' (first|(refine Aj.Il 37 ?_;refine Aj.ghost (Aq.freeze 36 rfl rfl) ?_)|apply Ad.Bo|apply Ad.region|apply Ad.E5|apply Ad.FH|apply Ad.EG|apply BL.normal|apply Bl.normal|apply Aj.nil|apply Ag.nil|apply Aj.one|(apply Ag.bar;decide +kernel)|apply Ag.quiet|(apply Aa.read [] x;rfl;rfl;exact .of_eq rfl;exact CV.AA rfl;exact Dk rfl;(repeat(first|exact trivial|refine⟨⟨_,rfl,.of_eq rfl⟩,?_⟩));decide;(intro _ M;simp at M<;>omega);rfl)|(apply Aa.fn;rfl;rfl;exact s;intro _;rfl)|(apply Aa.fn;rfl;rfl;exact C;intro _;rfl)|(apply Aa.Ap (l:=q.p.notes) (i:=m);rfl;exact congrArg (fun b=>some (PV.p (.int .i64 b))) e;rfl;omega;rfl)|(apply Aa.DV (l:=V) (i:=j);rfl;rfl;exact congrArg (fun b=>some (PV.p (.int .i64 b))) J;rfl;omega)|(apply Aa.OT (l:=V) (i:=j);rfl;rfl;omega;rfl)|(apply Aa.J9 (l:=V) (i:=j) (y:=Vp (gi V j) W);rfl;rfl;rfl;trivial;rfl;rfl;rfl;decide;omega)|(apply Aa.assign;rfl)|(apply Aa.move;rfl)|(apply Aa.MH;rfl;rfl;omega)|(apply Aa.int;rfl;rfl;rfl)|(apply Aa.Ap;rfl;rfl;rfl;omega;rfl)|(apply Aa.load;rfl;rfl)|(apply Aa.HY;rfl;rfl;rfl)|(apply Aa.alloc;rfl)|(apply Aa.Gl;rfl;rfl;rfl;trivial;rfl;rfl;exact Ba rfl;exact le_dec rfl)|(apply Aa.buildSlice;rfl;rfl;rfl;decide;rfl;rfl;rfl)|(apply Aa.extract;rfl;rfl)|(apply Ad.Ac;rfl)|(apply Ad.cond_true;rfl)|(intro _;try(exfalso;omega)))
   all_goals try(exfalso;omega)
   all_goals try contradiction
   refine Ai.normal ⟨by first|omega|decide,?_,?_⟩
   ·try(rw[← g])
    exact Du
   ·rw[← g]
    exact Ec
 ·repeat' (first|(refine Ad.at 10 ?_;refine Ad.ghost (Aq.freeze 7 rfl rfl) ?_;first|apply Ad.Bo|apply Ad.Ce)|apply Ad.Bo|refine go0 ?_|(apply Ad.Ac;rfl)|(intro _;try(exfalso;omega)))
  all_goals first|(exfalso;omega)|(refine Done.ret rfl (.refl _) trivial ?_ (by omega) (ab _) ⟨?_,rfl,rfl⟩;exact Ec;try rfl)
attribute [local irreducible] Qh
def a9v(y:Na):Int:=if 0≤y.hn∧y.hn≤10 then if 0≤y.fn∧y.fn≤10 then if 0≤y.hs∧y.hs≤127 then if 0≤y.fs∧y.fs≤127 then 0 else 3 else 3 else 3 else 3
theorem Zx{y:Na}(h:y.Ok):a9v y=0:=by
 unfold a9v;rw[if_pos h.hn,if_pos h.fn,if_pos h.hs,if_pos h.fs]
theorem Jg(y:Na):Ak env 32 [.agg (Enc.enc y)] (.p (.int .i64 (a9v y))):=by
 by_cases d:0≤y.hn∧y.hn≤10;all_goals by_cases c:0≤y.fn∧y.fn≤10
 all_goals by_cases b:0≤y.hs∧y.hs≤127
 all_goals by_cases a:0≤y.fs∧y.fs≤127
 all_goals unfold a9v
 all_goals first|rw[if_pos d]|rw[if_neg d]
 all_goals try first|rw[if_pos c]|rw[if_neg c]
 all_goals try first|rw[if_pos b]|rw[if_neg b]
 all_goals try first|rw[if_pos a]|rw[if_neg a]
 all_goals
  refine Ak.enter (Af (by decide)) Tryz.func32 rfl (by kernel_rfl) (by simp[Tryz.ntmps32]) ?_
 all_goals
  repeat' (first|(apply Aa.c2b;rfl;rfl;rfl;rfl;rfl;decide;rfl)|refine Jq ?_|(apply Aj.guard;rfl;rfl)|(apply Aa.b9g;rfl;rfl;rfl;rfl;rfl)|(apply Ad.b7y 2)|(apply Qh.zero)|(apply Qh.succ)|(apply Ai.again)|(apply Aa.int;rfl;rfl;rfl)|(apply Ad.AV;rfl)|(apply Ad.Ah;rfl)|(apply Ad.cond_true;rfl)|(apply Ad.Au;rfl)|(intro _;try(exfalso;omega)))
 all_goals first|(exfalso;omega)|(refine Done.rt rfl rfl ⟨?_,rfl,rfl⟩;try rfl)
theorem b0h(y:Na)(e:y.Ok)(s:FP)(b:s.Ok):Ak env 25 [.agg (Enc.enc y),.agg (Enc.enc s)] (.D5 [.p (.bool (decide (EH y (CW s)))),.p (.int .i64 0)]):=by
 have c:=Jg y;have h:=Zx e;rw[h] at c;have a:=Qk b.lo b.hi;have g:∀x∈CW s,0≤x∧x≤127:=fun x f=>by
  obtain⟨n,d,rfl,_⟩:=QT.1 f;omega
 have d:=ah y (CW s) (Rn s) g;have a:Bd env 61 [.agg (Enc.enc s)] 3 (cells (CW s)) (CW s).length _:=a;generalize CW s=M at *;refine Ak.enter (Af (by decide)) Tryz.func25 rfl (by kernel_rfl) (by simp[Tryz.ntmps25]) ?_
 repeat' (first|(refine Ag.Il 15 ?_;refine Ag.ghost (Aq.freeze 14 rfl rfl) ?_)|apply Ad.assoc|apply Ad.Bo|apply Ad.Ce|apply Ad.FH|apply Ad.ret|apply Aj.nil|apply Ag.nil|apply Aj.one|(apply Ag.bar;decide +kernel)|apply Ag.quiet|(apply Aa.fn;rfl;rfl;exact c;intro _;rfl)|(apply Aa.fv;rfl;rfl;exact a)|(apply Aa.fn;rfl;rfl;exact d;intro _;rfl)|(apply Aa.assign;rfl)|(apply Aa.move;rfl)|(apply Aa.int;rfl;rfl;rfl)|(apply Aa.load;rfl;rfl)|(apply Aa.box;rfl;trivial)|(apply Ad.Ah;rfl))
 all_goals first|(exfalso;omega)|(refine Done.rt rfl rfl ⟨?_,rfl,rfl⟩;try rfl)
def NV(l:List FP):Nat→FP
 |0=>⟨0,0⟩
 |k+1=>Vp (NV l k) (gi l k)
def P9(l:List FP):Nat→Int
 |0=>0
 |k+1=>P9 l k+((CW (gi l k)).length:Int)
def P7(y:Na)(l:List FP):Prop:=P9 l l.length≤y.fn∧wid (CW (NV l l.length))≤y.fs
instance (y:Na) (l:List FP):Decidable (P7 y l):=inferInstanceAs (Decidable (_∧_))
theorem mW{l:List FP}(h:∀i,i<l.length→(gi l i).Ok):∀k,k≤l.length→(NV l k).Ok
 |0,_=>NR
 |k+1,hk=>b4p (mW h k (by omega)) (h k (by omega))
theorem bg(l:List FP):∀k,0≤P9 l k∧P9 l k≤128*k
 |0=>⟨bl _,bl _⟩
 |k+1=>by
  have:=bg l k;have:=Rn (gi l k);show 0≤P9 l k+((CW (gi l k)).length:Int)∧P9 l k+((CW (gi l k)).length:Int)≤128*((k+1:Nat):Int);omega
theorem eu(y:Na)(l:List FP)(m:l.length≤1000)(h:∀i,i<l.length→(gi l i).Ok):Ak env 68 [.agg (Enc.enc y),.lst 84 (cells l) l.length] (.p (.bool (decide (P7 y l)))):=by
 have c:=mW h l.length (ab _);have j:Bd env 61 [.agg (Enc.enc (NV l l.length))] 3 (cells (CW (NV l l.length))) (CW (NV l l.length)).length _:=Qk c.lo c.hi;have f:=ZH (CW (NV l l.length)) (Rn _) fun x d=>by
  obtain⟨n,a,rfl,_⟩:=QT.1 d;omega
 have s:=bg l l.length;refine Ak.enter (Af (by decide)) Tryz.func68 rfl (by kernel_rfl) (by simp[Tryz.ntmps68]) ?_
 repeat' (first|refine go2 ?_|fail)
 apply Ad.GU (l.length) [(2,_),(5,_),(9,_),(10,_)] [(0,_)] (fun k r=>(11,.p (.int .i64 (k:Int)))::(6,.p (.int .i64 (P9 l k)))::r) (fun k r=>(1,.box 84 ((Enc.enc (NV l k)).map .p))::r) 2
 ·first|omega|decide
 ·first|omega|decide
 ·exact Qb
 ·exact Tt
 ·intro k b
  have g:=MZ (NV l k) (gi l k) (mW h k (by omega)) (h k b);have o:=fJ (gi l k) (h k b);have q:=bg l k;have m:=Rn (gi l k)
  repeat' (first|(apply Aa.fn;rfl;rfl;exact g;intro _;rfl)|(apply Aa.fn;rfl;rfl;exact o;intro _;rfl)|(apply Aa.Ap;rfl;rfl;rfl;omega;rfl)|refine go2 ?_|(apply Aa.int;rfl;rfl;rfl)|(apply Ad.Ac;rfl)|(intro _;try(exfalso;omega)))
  all_goals try(exfalso;omega)
  refine Ai.normal ⟨by first|omega|decide,?_,?_⟩
  ·exact Du
  ·exact Ec
 ·have e:decide (P7 y l)=(decide (P9 l l.length≤y.fn)&&decide (wid (CW (NV l l.length))≤y.fs)):=by
   unfold P7;exact Bool.decide_and _ _
  rw[e];generalize CW (NV l l.length)=M at *;generalize P9 l l.length=C at *;generalize wid M=W at *;by_cases a:C≤y.fn
  ·rw[decide_eq_true a,cI]
   repeat' (first|(refine Ag.Il 30 ?_;refine Ag.ghost (Aq.freeze 29 rfl rfl) ?_)|apply Ad.Bo|apply Ad.Ce|apply Ad.FT|apply BL.normal|apply Bl.exit|apply Ai.exit|apply Ad.ret|apply Aj.nil|apply Ag.nil|apply Aj.one|(apply Ag.bar;decide +kernel)|apply Ag.quiet|(apply Ag.Wi;rfl;rfl)|(apply Ag.guard;rfl;rfl)|(apply Aa.fv;rfl;rfl;exact j)|(apply Aa.fn;rfl;rfl;exact f;intro _;rfl)|(apply Aa.assign;rfl)|(apply Aa.move;rfl)|(apply Aa.int;rfl;rfl;rfl)|(apply Aa.load;rfl;rfl)|(apply Aa.Og;rfl;rfl)|(apply Aa.HY;rfl;rfl;rfl)|(apply Ad.Ac;rfl)|(intro _;try(exfalso;omega)))
   all_goals first|(exfalso;omega)|(refine Done.rt rfl rfl ⟨?_,rfl,rfl⟩;try rfl)
  ·rw[decide_eq_false a,cU]
   repeat' (first|refine JD ?_|(apply Ag.guard;rfl;rfl)|(apply Ad.Ac;rfl)|(intro _;try(exfalso;omega)))
   all_goals first|(exfalso;omega)|(refine Done.rt rfl rfl ⟨?_,rfl,rfl⟩;try rfl)
theorem a0e(y:Na)(b:y.Ok)(l:List FP)(c:l.length≤1000)(h:∀i,i<l.length→(gi l i).Ok):Ak env 161 [.agg (Enc.enc y),.lst 84 (cells l) l.length] (.D5 [.p (.bool (decide (P7 y l))),.p (.int .i64 0)]):=by
 have a:=Jg y;have e:=Zx b;rw[e] at a;have d:=eu y l c h;refine Ak.enter (Af (by decide)) Tryz.func161 rfl (by kernel_rfl) (by simp) ?_
 repeat' (first|(apply Aa.fn;rfl;rfl;exact a;intro _;rfl)|(apply Aa.fn;rfl;rfl;exact d;intro _;rfl)|refine go2 ?_|(apply Aa.int;rfl;rfl;rfl)|(apply Ad.Ah;rfl))
 all_goals first|(omega)|(refine Done.rt rfl rfl ⟨?_,rfl,rfl⟩;try rfl)
theorem b0w:env.O 147=some (Tc (Az Tryz.prog 8 BU) (AZ Tryz.prog 8 BU) Tryz.f147.ntmps Q9):=by
 rfl
theorem a6e(s:FP)(d:s.Ok){e:TypeId}:b9a env 147 Tryz.f147 (Enc.enc s) e (F9 s.lo s.hi):=by
 intro u b m F c q k j l;cases b;cases j with|cons o t =>
 cases t with|cons n t =>
 cases t;cases o;cases n;refine⟨notKey s.lo s.hi,fun i x f r h a p=>⟨i,?_⟩⟩;refine sG (kr:=(notKey s.lo s.hi,F9 s.lo s.hi)) (Ze p) ?_;have g:=(a c l).trans k;have b1:=d.lo;have b2:=d.hi;unfold Q9;simp only[g];rw[if_pos ⟨⟨by omega,by omega⟩,by omega,by omega⟩];rfl
theorem b7c{L:Vm.Frame}{H:Vm.Heap}{nx:Nat}{Q:PV→Vm.Heap→Nat→Prop}{dst:Option Tmp}{ty:TypeId}{pos:String}{af:Array Edge}{gd:Option (Nat×Bool)}{e:Operand}{args:Array Operand}{j:Array TypeId}{a cs xs:List PV}{c:Code}
 (g:AU env.Γ L e=some (.clo 108 a cs)) (i:evs env.Γ L args.toList=some xs) (b:Tryz.f108.body=some c) (f:(a++xs++cs).length≤Tryz.f108.ntmps)
 (h:Ad env nx c (CG 0 (a++xs++cs)) H nx (AO env.P Tryz.f108.results.toList Q)):Aa env true ⟨dst,.call { callee:=.value e,args:=args,argTypes:=j },ty,pos,af,gd⟩ L H nx Q:=by
 have d:(match Tryz.f108.body with|some c=>Ir env.G Tryz.f108 c|none=>false)=true:=by kernel_rfl
 rw[b] at d;exact Aa.inline rfl g i (Af (by decide)) Tryz.func108 b d f h
theorem y9(s:FP)(d:s.Ok):Ak env 125 [.agg (Enc.enc s)] (.D5 [.p (.int .i64 (gi (CW s) 0)),.p (.bool (decide (CW s≠[])))]):=by
 refine Ak.enter (Af (by decide)) Tryz.func125 rfl (by kernel_rfl) (by simp[Tryz.ntmps125]) ?_
 repeat' (first|(apply b7c;rfl;rfl;rfl;exact le_dec rfl)|(apply Aa.makeFunc;rfl;rfl)|refine go2 ?_|(apply AO.ret;rfl))
 all_goals try(exfalso;omega)
 refine Ad.yU (CW s).length (fun k=>[.int .i64 (gi (CW s) k)]) (fun k=>[Go.encZ (gi (CW s) k)]) [(2,.ref 1 0),(3,.ref 2 0)]
  (fun k=>[(1,.box 3 [.p (.int .i64 0)]),(2,.box 4 [.p (.bool false)])]) 3 (fun k=>k=0)
  rfl rfl Tryz.func147 rfl b0w ?_ (fun _ _=>rfl) (fun _ _=>rfl) (fun k _ m F=>.cons (.int _ _) .nil) (by omega) ⟨by omega,?_,?_⟩ ?_ (a6e s d) rfl ?_ ?_
 ·unfold F9 CW
  refine fc (by simp) fun i c f=>?_
  simp only[List.getElem_map,List.getElem_range];unfold gi;rw[aM] at c;rw[ai c];rfl
 ·exact Du
 ·exact Ec
 ·exact Du
 ·rintro k b rfl
  have a:CW s≠[]:=fun e=>by rw[e] at b;simp at b
  rw[decide_eq_true a]
  repeat' (first|refine go2 ?_|fail)
  refine⟨rfl,?_⟩
  repeat' (first|refine go2 ?_|apply Ad.Jh)
  refine⟨by omega,[(1,.box 3 [.p (.int .i64 (gi (CW s) 0))]),(2,.box 4 [.p (.bool true)])],?_,?_⟩
  ·exact Ec
  ·repeat' (first|apply BL.ret|apply Bl.ret)
   all_goals first|(exfalso;omega)|(refine Done.rt rfl rfl ⟨?_,rfl,rfl⟩;try rfl)
 ·intro h
  have a:CW s=[]:=av.1 h;rw[a]
  repeat' (first|refine go2 ?_|fail)
  all_goals first|(exfalso;omega)|(refine Done.rt rfl rfl ⟨?_,rfl,rfl⟩;try rfl)
structure WW where
 d:Int
 k:Int
deriving DecidableEq
instance:Enc WW:={ default:=⟨0,0⟩,enc:=fun x=>[.int .i64 x.d,.int .i64 x.k],size:=2,len:=fun _=>rfl }
def hcK(y:Na)(K:List FP):Nat→Bool×Int
 |0=>(true,0)
 |k+1=>if CW (gi K k)=[] then hcK y K k else((hcK y K k).1&&decide ((hcK y K k).2=0)&&decide (EH y (CW (gi K k))),(hcK y K k).2+1)
theorem a0u(y:Na)(K:List FP):∀k,0≤(hcK y K k).2∧(hcK y K k).2≤k
 |0=>⟨bl _,bl _⟩
 |k+1=>by
  have:=a0u y K k;unfold hcK;grind
def V7(p:Fe)(N l:List Int)(h:Int):Nat→Bool×WW
 |0=>(false,⟨0,0⟩)
 |k+1=>if gi l (gi N k).toNat=h∧((V7 p N l h k).1=false∨(gi p.notes (gi N k).toNat).k<(V7 p N l h k).2.k) then(true,⟨(gi p.notes (gi N k).toNat).d,(gi p.notes (gi N k).toNat).k⟩) else V7 p N l h k
def YN(q:Qu)(N l:List Int)(h:Int):Bool:=(hcK q.y (Iu q N (hasB l h)) (Iu q N (hasB l h)).length).1
theorem Rx(q:Qu)(N:List Int)(is:Nat→Bool):(Iu q N is).length=q.o.Ae.length:=Cc _ _
theorem Zy{q:Qu}(a:KE q){N:List Int}(c:iF q N)(is:Nat→Bool){d:Nat}(b:d<q.o.Ae.length):(gi (Iu q N is) d).Ok:=by
 unfold Iu;rw[Dy _ b];exact Wn (PK a c _ (ab _)) _ (ab _)
theorem RS(q:Qu)(x:KE q)(s:oW)(G:iF q s.notes)(F:s.notes.length≤1000)(l:List Int)(h:Int)(P:l.length=q.p.notes.length):Ak env 86 [.agg (Enc.enc q),.agg (Enc.enc s),.lst 3 (cells l) l.length,.int .i64 h]
 (.D5 [.p (.agg (Enc.enc (V7 q.p s.notes l h s.notes.length).2)),.p (.bool (V7 q.p s.notes l h s.notes.length).1),.p (.bool (YN q s.notes l h))]):=by
 have T:=x.p.notes;have X:=x.o.Ae;have j:=zq q x s.notes G F l h P;have I:=Rx q s.notes (hasB l h);have g:=fun d R=>Zy x G (hasB l h) (d:=d) R
 rw[← I] at g;unfold YN;generalize Iu q s.notes (hasB l h)=K at *;refine Ak.enter (Af (by decide)) Tryz.func86 rfl (by kernel_rfl) (by simp[Tryz.ntmps86]) ?_
 repeat' (first|(apply Aa.read [2,3] j;rfl;rfl;exact .of_eq rfl;exact CV.AA rfl;exact Dk rfl;(repeat(first|exact trivial|refine⟨⟨_,rfl,.of_eq rfl⟩,?_⟩));decide;(intro _ S;simp at S<;>omega);rfl)|(apply Aa.makeFunc;rfl;rfl)|refine go2 ?_|fail)
 all_goals try(exfalso;omega)
 apply Ad.GU (K.length) [(4,_),(5,_),(6,_),(7,_),(8,_),(9,_),(25,_),(26,_)] [(0,_),(1,_),(2,_),(3,_),(4,_)] (fun k r=>(27,.p (.int .i64 (k:Int)))::(10,.p (.bool (hcK q.y K k).1))::(11,.p (.int .i64 (hcK q.y K k).2))::r) (fun k r=>r) 5
 ·first|omega|decide
 ·first|omega|decide
 ·exact Qb
 ·exact Tt
 ·intro k j
  have f:=y9 (gi K k) (g k j);have B:=b0h q.y x.y (gi K k) (g k j);have U:=a0u q.y K k;have u:hcK q.y K (k+1)=if CW (gi K k)=[] then hcK q.y K k else((hcK q.y K k).1&&decide ((hcK q.y K k).2=0)&&decide (EH q.y (CW (gi K k))),(hcK q.y K k).2+1):=rfl
  rw[u];clear u;generalize hcK q.y K k=r at *;obtain⟨c,n⟩:=r;by_cases A:CW (gi K k)=[]
  ·rw[if_pos A]
   rw[decide_eq_false (fun e=>e A)] at f;generalize gi (CW (gi K k)) 0=z at *
   repeat' (first|(apply Aa.fn;rfl;rfl;exact f;intro _;rfl)|(apply Aa.Ap;rfl;rfl;rfl;omega;rfl)|refine go2 ?_|(apply Aa.int;rfl;rfl;rfl)|(apply Ad.AV;rfl)|(apply Ad.Ac;rfl)|(intro _;try(exfalso;omega)))
   all_goals try(exfalso;omega)
   refine Ai.normal ⟨by first|omega|decide,?_,?_⟩
   ·exact Du
   ·exact Ec
  ·rw[if_neg A]
   rw[decide_eq_true A] at f;generalize gi (CW (gi K k)) 0=z at *;generalize decide (EH q.y (CW (gi K k)))=w at *;cases c;all_goals by_cases M:n=0
   all_goals cases w
   all_goals first|rw[decide_eq_true M]|rw[decide_eq_false M]
   all_goals
    repeat' (first|(apply Aa.fn;rfl;rfl;exact f;intro _;rfl)|(apply Aa.fn;rfl;rfl;exact B;intro _;rfl)|(apply Aa.Ap;rfl;rfl;rfl;omega;rfl)|refine Jq ?_|(apply Aj.guard;rfl;rfl)|(apply Aa.int;rfl;rfl;rfl)|(apply Ad.Ah;rfl)|(apply Ad.Ac;rfl)|(intro _;try(exfalso;omega)))
   all_goals try(exfalso;omega)
   all_goals try contradiction
   all_goals
    refine Ai.normal ⟨by first|omega|decide,?_,?_⟩
    ·exact Du
    ·exact Ec
 ·repeat' (first|refine JD ?_|(apply Ad.Ac;rfl)|(intro _;try(exfalso;omega)))
  all_goals try(exfalso;omega)
  apply Ad.GU (s.notes.length) [(4,_),(6,_),(7,_),(8,_),(10,_),(57,_),(58,_)] [(0,_),(1,_),(2,_),(3,_)] (fun k r=>(59,.p (.int .i64 (k:Int)))::(9,.p (.bool (V7 q.p s.notes l h k).1))::r) (fun k r=>(4,.box 120 ((Enc.enc (V7 q.p s.notes l h k).2).map .p))::r) 5
  ·first|omega|decide
  ·first|omega|decide
  ·exact Qb
  ·exact Tt
  ·intro k j
   obtain⟨W,V⟩:=G k j;obtain⟨m,C⟩:∃m:Nat,gi s.notes k=(m:Int):=⟨(gi s.notes k).toNat,by omega⟩
   have O:m<q.p.notes.length:=by omega
   have u:V7 q.p s.notes l h (k+1)=if gi l (gi s.notes k).toNat=h∧((V7 q.p s.notes l h k).1=false∨(gi q.p.notes (gi s.notes k).toNat).k<(V7 q.p s.notes l h k).2.k) then(true,⟨(gi q.p.notes (gi s.notes k).toNat).d,(gi q.p.notes (gi s.notes k).toNat).k⟩) else V7 q.p s.notes l h k:=rfl
   rw[C,aE] at u;rw[u];clear u;generalize V7 q.p s.notes l h k=r at *;obtain⟨c,a⟩:=r;by_cases J:gi l m=h;all_goals cases c
   all_goals by_cases N:(gi q.p.notes m).k<a.k
   all_goals first|rw[if_pos (And.intro J (Or.inl rfl))]|rw[if_pos (And.intro J (Or.inr N))]|rw[if_neg (fun e=>J e.1)]|rw[if_neg (fun e=>e.2.elim (fun e=>nomatch e) N)]
   all_goals
    repeat' (first|(apply Aa.Ap (l:=q.p.notes) (i:=m);rfl;exact congrArg (fun b=>some (PV.p (.int .i64 b))) C;rfl;omega;rfl)|(apply Aa.Ap (l:=l) (i:=m);rfl;exact congrArg (fun b=>some (PV.p (.int .i64 b))) C;rfl;omega;rfl)|(apply Aa.Ap;rfl;rfl;rfl;omega;rfl)|refine Jq ?_|(apply Ag.guard;rfl;rfl)|(apply Ag.dB;rfl;rfl)|(apply Aa.int;rfl;rfl;rfl)|(apply Aa.build;rfl;rfl;rfl;rfl;rfl)|(apply Ad.Ac;rfl)|(apply Ad.cond_true;rfl)|(apply Ad.cond_false;rfl)|(apply Ad.Au;rfl)|(intro _;try(exfalso;omega)))
   all_goals try(exfalso;omega)
   all_goals try contradiction
   all_goals
    refine Ai.normal ⟨by first|omega|decide,?_,?_⟩
    ·exact Du
    ·exact Ec
  ·repeat' (first|refine JD ?_|(apply Ad.Ac;rfl)|(intro _;try(exfalso;omega)))
   all_goals first|(exfalso;omega)|(refine Done.rt rfl rfl ⟨?_,rfl,rfl⟩;try rfl)
end Go.Proofs.YtnjkoebfgcbbdaaGreatDoor
namespace Go.Vm
open Go.Am
variable {E:Env}{L:Frame}{H:Heap}{nx:Nat}{Q:PV→Heap→Nat→Prop}{dst:Option Tmp}{ty:TypeId}{pos:String}{af:Array Edge}{gd:Option (Nat×Bool)}{w:Bool}
theorem Aa.UZ{c:Operand}{args:Array Operand}{o:Array TypeId}{g:FuncId}{b cs d ac:List PV}{x:FV}(j:D7 E g ac [] 0 x)(i:AU E.Γ L c=some (.clo g b cs))(k:evs E.Γ L args.toList=some d)
 (a:PE (b++d++cs) (CV.rn (rho [] nx) ac)) (f:CV.under 0 ac) (q:Q (.p x) H nx):Aa E w ⟨dst,.call { callee:=.value c,args:=args,argTypes:=o },ty,pos,af,gd⟩ L H nx Q :=
 Aa.ZJ (ns:=[]) (Hc:=[]) i k a f trivial trivial co (by simp) (fun _=>rfl) j
  (fun r s e h=>by
   obtain⟨n,m,l⟩:=h;subst n;subst m;subst l;rw[RZ];exact q)
end Go.Vm
namespace Go.Proofs.YtnjkoebfgcbbdaaGreatDoor
open Go Go.Am Go.Vm Go.Pie
attribute [local irreducible] Aa Aj Ag Ad AL Ak Bd BL Bl Ai Vm.Done BD AO Qh
attribute [local irreducible] CJ Bf Eb DW EF A8 Cj
def a0r(q:Qu)(N:List Int):Bool:=decide (P7 q.y (Iu q N (Gj q)))
def MJ(q:Qu)(N l:List Int):Bool:=YN q N l 0&&YN q N l 1&&a0r q N
theorem yL(q:Qu)(b:KE q)(s:oW)(f:iF q s.notes)(c:s.notes.length≤1000):Ak env 128 [.agg (Enc.enc q),.agg (Enc.enc s)] (.p (.bool (a0r q s.notes))):=by
 have j:=b.o.Ae;have g:=zn q b s.notes f c;have e:=Rx q s.notes (Gj q);have a:=fun d i=>Zy b f (Gj q) (d:=d) i
 rw[← e] at a;have h:=a0e q.y b.y (Iu q s.notes (Gj q)) (by omega) a;unfold a0r;generalize Iu q s.notes (Gj q)=K at *;refine Ak.enter (Af (by decide)) Tryz.func128 rfl (by kernel_rfl) (by simp[Tryz.ntmps128]) ?_
 repeat' (first|(apply Aa.fn;rfl;rfl;exact h;intro _;rfl)|(apply Aa.UZ g;rfl;rfl;exact .of_eq rfl;exact CV.AA rfl)|(apply Aa.makeFunc;rfl;rfl)|refine go2 ?_|fail)
 all_goals first|(exfalso;omega)|(refine Done.rt rfl rfl ⟨?_,rfl,rfl⟩;try rfl)
theorem iq(q:Qu)(b:KE q)(s:oW)(c:iF q s.notes)(a:s.notes.length≤1000)(l:List Int)(d:l.length=q.p.notes.length):Ak env 90 [.agg (Enc.enc q),.agg (Enc.enc s),.lst 3 (cells l) l.length] (.p (.bool (MJ q s.notes l))):=by
 have g:=RS q b s c a l 0 d;have f:=RS q b s c a l 1 d;have e:=yL q b s c a;unfold MJ;generalize YN q s.notes l 0=c0 at *;generalize YN q s.notes l 1=c1 at *;generalize a0r q s.notes=c2 at *;generalize V7 q.p s.notes l 0 s.notes.length=a0 at *;generalize V7 q.p s.notes l 1 s.notes.length=a1 at *;cases c0<;>cases c1<;>cases c2
 all_goals
  refine Ak.enter (Af (by decide)) Tryz.func90 rfl (by kernel_rfl) (by simp[Tryz.ntmps90]) ?_
 all_goals
  repeat' (first|(apply Aa.fn;rfl;rfl;exact g;intro _;rfl)|(apply Aa.fn;rfl;rfl;exact f;intro _;rfl)|(apply Aa.fn;rfl;rfl;exact e;intro _;rfl)|refine Jq ?_|fail)
 all_goals first|(exfalso;omega)|contradiction|(refine Done.rt rfl rfl ⟨?_,rfl,rfl⟩;try rfl)
def tY(q:Qu):HB:=.box 36 ((Enc.enc q).map .p)
def slB(s:oW):HB:=.box 81 ((Enc.enc s).map .p)
theorem iG(q:Qu)(b:KE q)(s:oW)(f:iF q s.notes)(a:s.notes.length≤1000)(l:List Int)(e:l.length=q.p.notes.length):D7 env 89 ([.p (.lst 3 (cells l) l.length)]++[.ref 0 0,.ref 1 0]) [(0,tY q),(1,slB s)] 2 (.bool (!MJ q s.notes l)):=by
 have d:=iq q b s f a l e;unfold tY slB;generalize MJ q s.notes l=c at *;refine D7.enter (Af (by decide)) Tryz.func89 rfl (by kernel_rfl) (by simp[Tryz.ntmps89]) ?_
 repeat' (first|(apply Aa.fn;rfl;rfl;exact d;intro _;rfl)|refine go2 ?_|fail)
 all_goals first|(exfalso;omega)|(refine Done.ret rfl (.refl _) trivial ?_ (by omega) (ab _) ⟨?_,rfl,rfl⟩;exact Ec;try rfl)
end Go.Proofs.YtnjkoebfgcbbdaaGreatDoor
namespace Go.Vm
open Go.Am
variable {E:Env}{L:Frame}{H:Heap}{nx:Nat}{Q:PV→Heap→Nat→Prop}{w:Bool}
variable {dst:Option Tmp}{ty:TypeId}{pos:String}{af:Array Edge}{gd:Option (Nat×Bool)}
theorem Aa.pz{t:TypeId}{x:Operand}{r s:Option Operand}{e:TypeId}{cs:List FV}{b n off len a c sz:Nat}{z:Bool}{h:TypeInfo}(V:AU E.Γ L x=some (.vec b n off len))(J:hget H b=some (.vec e cs n z))(hn:0<n)(W:E.P.underlying t=some (.slice e))(G:E.P.info? e=some h)(A:h.size=sz)
 (i:match r with|none=>a=0|some o=>∃k,AU E.Γ L o=some (.p (.int k (a:Int)))) (l:match s with|none=>c=len|some o=>∃k,AU E.Γ L o=some (.p (.int k (c:Int)))) (K:a≤c) (I:c≤len)
 (q:Q (.vec b n (off+a*sz) (c-a)) H nx):Aa E w ⟨dst,.slice t x r s none,ty,pos,af,gd⟩ L H nx Q :=
 Aa.quiet q fun m F σ R u M=>by
  have O:bnd 0 (r.map (ev R))=some a:=by
   cases r with
   |none=>rw[i];rfl
   |some o =>
    obtain⟨k,C⟩:=i;simp only[Option.map_some,CQ u M C,bnd];rfl
  have N:bnd len (s.map (ev R))=some c:=by
   cases s with
   |none=>rw[l];rfl
   |some o =>
    obtain⟨k,C⟩:=l;simp only[Option.map_some,CQ u M C,bnd];rfl
  have f:=Ko u M V J;obtain⟨B,X⟩:=u.hp b _ J;rcases X with⟨y,S,U⟩|⟨d,g,Z,y,S,U,T,r5,r6,r7⟩
  ·omega
  rw[y] at f;simp only[FU] at f;refine⟨.slice (some ⟨d,off+a*sz,none⟩) (c-a) g,fun _=>?_,.vec B rfl fun j Y=>?_⟩
  ·simp only[BO,FI,f,aslice,Option.isSome_none,Option.map_none,Bool.false_and,Bool.false_eq_true,if_false,W,G,O,N,T,K,I,S,and_self,if_true,Option.map_some,A]
  ·simp only[htag,J,HB.tag,Option.map_some,Option.some.injEq,Tg.vec.injEq] at Y
   refine⟨by omega,fun _=>?_⟩;rw[y];rfl
theorem a4a{m:Mem}{F:Nat→Prop}{σ:Nat→Value}{b n off c g:Nat}{e:TypeId}{cs i:List FV}{vs l:List Value}{z:Bool}(A:Ctx E.Γ m F σ H nx)(y:hget H b=some (.vec e cs n z))(G:0<n)(j:σ b=.slice (some ⟨c,0,none⟩) n g)(r:c<m.size)(o:¬ F c)(B:m.get c=.cells vs e g false)(q:Dt m F cs vs)(p:vs.all BK=true)
 (u:Dt m F i l) (x:l.all BK=true) :
 Ctx E.Γ (m.put c (.cells (splice vs off l) e g false)) F (upd σ b (σ b)) (hput H b (.vec e (Dh cs off i) n z)) nx∧Step m F σ H nx (m.put c (.cells (splice vs off l) e g false)) F (upd σ b (σ b)) (hput H b (.vec e (Dh cs off i) n z)) nx:=by
 have a:∀d,c≠d→(m.put c (.cells (splice vs off l) e g false)).get d=m.get d:=fun d f=>by rw[Mem.get_put,if_neg f]
 exact A.change (m':=m.put c (.cells (splice vs off l) e g false)) (x':=.vec e (Dh cs off i) n z) (s':=σ b) y (ab _) (fun _=>rfl) (ab _)
  (fun d _ f=>a d fun e=>f (by rw[j,e];rfl)) (fun k k1 C s=>by
   have:=s c (by rw[j];rfl);simp only[Mem.put];omega) (fun d f=>.inl f) (by
   refine .inr ⟨c,g,splice vs off l,j,r,o,by rw[Mem.get_put,if_pos rfl],?_,J4 _ p x,fun h=>by omega⟩;exact(Dt.splice off q u).mono (fun d f=>⟨f,a d fun e=>o (e▸f)⟩))
def SlT(Γ:Nat→Option (List Value×TypeId))(L:Frame)(H:Heap)(nx:Nat)(x:Operand)(sz n:Nat)(xs:List FV)(k:Nat):Prop :=
 ∀m F σ t,Ctx Γ m F σ H nx→RL m F (htag H) σ nx L t→lenOf (ev t x)=some n∧∃l,BM m sz k (ev t x)=some l∧Dt m F xs l∧l.all BK=true
theorem Aa.clear{d:Operand}{G e:TypeId}{i:TypeInfo}{b n off len:Nat}{cs:List FV}{z:Bool}{zs:List Value}(S:AU E.Γ L d=some (.vec b n off len))(r:hget H b=some (.vec e cs n z))(N:0<n)(U:0<len)
 (p:E.P.underlying G=some (.slice e)) (R:E.P.info? e=some i) (C:Cb E.P e=some zs) (j:zs.length=i.size∧0<i.size) (Z:off+len*i.size≤cs.length) (q:Q (.D5 []) (hput H b (.vec e (Dh cs off ((AB zs len).map Ij)) n z)) nx) :
 Aa E true ⟨none,.call { callee:=.builtin .clear,args:=#[d],argTypes:=#[G] },ty,pos,af,gd⟩ L H nx Q:=by
 intro m F σ t s T;have a:=Ko s T S r;obtain⟨O,M⟩:=s.hp b _ r;rcases M with⟨B,A,y⟩|⟨c,g,I,B,A,y,x,u,J,Y⟩
 ·omega
 simp only[FU] at a;have f:zs.all Am.plainCell=true:=by
  obtain⟨_,X,_,_,_,h⟩:=BI C;exact h
 have l:Dt m F ((AB zs len).map Ij) (AB zs len):=IQ (JJ f len);have k:(AB zs len).all BK=true:=Dl (JJ f len);have o:=u.length;have K:=EN zs len;obtain⟨W,V⟩:=a4a (E:=E) (off:=off) s r N B A y x u J l k;refine Gy.op (v:=.tuple #[]) (m':=m.put c (.cells (splice I off (AB zs len)) e g false)) (fun _=>?_) ⟨_,_,_,F,_,q,W,.D5 .nil,V,fun h=>by cases h⟩;have hp:=dC U j.2;simp only[BO,FI,Xh,List.map_toArray,List.map_cons,List.map_nil,List.getElem?_toArray,List.getElem?_cons_zero,a,p,R,C];simp only[Gu,x,NK,Option.getD_some,beq_self_eq_true,Bool.true_and];grind
def Rt:Code→Option Nat
 | .region n _ _=>some n
 | .seq a b=>match Rt a with
  |some n=>some n
  |none=>Rt b
 | .block _ b=>Rt b
 | .loop b=>Rt b
 | .scope b=>Rt b
 |_=>none
def Nw(r:Nat):Code→Option Code
 | .loop b=>match Rt b with
  |some n=>match Nat.beq n r with
   |true=>some (.loop b)
   |false=>Nw r b
  |none=>Nw r b
 | .seq a b=>match Nw r a with
  |some c=>some c
  |none=>Nw r b
 | .cond _ a b=>match Nw r a with
  |some c=>some c
  |none=>Nw r b
 | .block _ b=>Nw r b
 | .scope b=>Nw r b
 | .rangeFunc _ _ _ b=>Nw r b
 |_=>none
def c8q(fn:Func)(r:Nat):Code:=match fn.body with
 |some c=>match Nw r c with
  |some c=>c
  |none=>.skip
 |none=>.skip
end Go.Vm
namespace Go.Proofs.YtnjkoebfgcbbdaaGreatDoor
open Go Go.Am Go.Vm Go.Pie
attribute [local irreducible] Aa Aj Ag Ad AL Ak Bd BL Bl Ai Vm.Done BD AO
attribute [local irreducible] CJ Bf Eb DW EF A8 Cj
theorem XZ(l:List Int)(a:0<l.length)(b:l.length<1000000):Bd env 75 [.lst 3 (cells l) l.length] 3 (cells l) l.length false:=by
 refine Bd.enter (Af (by decide)) Tryz.func75 rfl (by kernel_rfl) (by simp[Tryz.ntmps75]) ?_
 repeat' (first|(apply Aa.a7u;rfl;rfl;rfl;exact a)|(apply Aa.U1;rfl;rfl;rfl;(first|rfl|omega|(simp only[List.length_take,List.length_drop,List.length_append,List.length_singleton,List.length_cons,List.length_nil]<;>omega));rfl;rfl;(intro _ h;cases h);rfl;rfl;rfl;decide;decide;(first|omega|(simp only[List.length_take,List.length_drop,List.length_append,List.length_singleton,List.length_cons,List.length_nil]<;>omega)))|refine go2 ?_|(apply Aa.buildSlice;rfl;rfl;rfl;decide;rfl;rfl;rfl)|(apply Ad.Ah;rfl))
 exact BD.ret rfl rfl rfl rfl
def ctN(p:Fe)(a z:Int):Nat→List Me
 |0=>[]
 |k+1=>if(gi p.notes k).s<z∧(gi p.notes k).e>a then ctN p a z k++[⟨max (gi p.notes k).s a,min (gi p.notes k).e z,(gi p.notes k).d,(gi p.notes k).k⟩] else ctN p a z k
def c8j(p:Fe)(f:Nat):List yA:=if 0≤wan p (gi p.bars f)∧(gi p.sets (wan p (gi p.bars f)).toNat).bar<f then [⟨0,(gi p.sets (wan p (gi p.bars f)).toNat).reg⟩] else []
def ctS(p:Fe)(f t:Nat)(s0:List yA):Nat→List yA
 |0=>s0
 |k+1=>if(gi p.sets k).bar≥f∧(gi p.sets k).bar<t then ctS p f t s0 k++[⟨(gi p.sets k).bar-f,(gi p.sets k).reg⟩] else ctS p f t s0 k
def ctB(p:Fe)(f t:Nat):List Int:=(p.bars.drop f).take (t+1-f)
def d3e(p:Fe)(f t:Nat):Fe:=⟨ctB p f t,ctN p (gi p.bars f) (gi p.bars t) p.notes.length,ctS p f t (c8j p f) p.sets.length⟩
def d2z:List FV:=[.val (.slice none 0 0),.val (.slice none 0 0),.val (.slice none 0 0)]
attribute [local irreducible] Qh
theorem PD{α:Type}:∀(r cs:List α) (o:Nat) {k:Nat},k≤o→(Dh cs o r).take k=cs.take k
 |[],cs,o,k,h=>by rfl
 |a::r,cs,o,k,h=>by
  simp only[Dh];rw[PD r (cs.set o a) (o+1) (by omega),il h]
theorem filter_all{α:Type}{P:α→Bool}{l:List α}[Inhabited α](h:∀i,i<l.length→P (gi l i)=true):l.filter P=l:=by
 rw[ii];intro a c;obtain⟨i,b,rfl⟩:=ed c;have:=h i b
 rwa[show gi l i=l[i] by unfold gi;grind] at this
structure SH{α:Type}(P:α→Bool)(l zs:List α)(i j:Nat):Prop where
 len:zs.length=l.length
 ij:i<j
 jn:j≤l.length
 keep:zs.take i=(l.take j).filter P
 rest:zs.drop j=l.drop j
theorem SH.at_{α:Type}[Inhabited α]{P:α→Bool}{l zs:List α}{i j:Nat}(h:SH P l zs i j)(a:j<l.length):gi zs j=gi l j:=by
 have:=congrArg (fun x=>gi x 0) h.rest;simp only[gi,List.getElem?_drop,Nat.add_zero] at this;exact this
theorem SH.skip{α:Type}[Inhabited α]{P:α→Bool}{l zs:List α}{i j:Nat}(h:SH P l zs i j)(a:j<l.length)(b:P (gi l j)=false):SH P l zs i (j+1):=by
 refine⟨h.len,by have:=h.ij;omega,a,?_,?_⟩
 ·rw[Eh a,dc,h.keep]
  grind
 ·have:=congrArg (List.drop 1) h.rest
  simp_all
theorem SH.put{α:Type}[Inhabited α]{P:α→Bool}{l zs:List α}{i j:Nat}(h:SH P l zs i j)(a:j<l.length)(b:P (gi l j)=true):SH P l (zs.set i (gi l j)) (i+1) (j+1):=by
 have d:=h.ij;have c:=h.len;refine⟨by grind,by omega,a,?_,?_⟩
 ·rw[Eh a,dc,← h.keep,Eh (by grind),il (ab _)]
  have e:gi (zs.set i (gi l j)) i=gi l j:=by rw[G5,if_pos ⟨rfl,by omega⟩]
  grind
 ·rw[List.drop_set_of_lt (by omega)]
  have:=congrArg (List.drop 1) h.rest;simp_all
theorem SH.start{α:Type}[Inhabited α]{P:α→Bool}{l:List α}{k:Nat}(a:k<l.length)(c:P (gi l k)=false)(h:∀i,i<k→P (gi l i)=true):SH P l l k (k+1):=by
 refine⟨rfl,by omega,a,?_,rfl⟩;rw[Eh a,dc];have:(l.take k).filter P=l.take k:=filter_all fun i b=>by
  rw[ar] at b;have:=h i (by omega)
  rwa[show gi (l.take k) i=gi l i from by unfold gi;grind]
 grind
theorem SH.fin{α:Type}[Inhabited α]{P:α→Bool}{l zs:List α}{i:Nat}(h:SH P l zs i l.length):zs.take i=l.filter P∧i=(l.filter P).length:=by
 have a:=h.keep;rw[di (ab _)] at a;refine⟨a,?_⟩;rw[← a,ar,h.len];have:=h.ij;omega
theorem a3a{L:Vm.Frame}{H:Vm.Heap}{nx:Nat}{Q:PV→Vm.Heap→Nat→Prop}{dst:Option Tmp}{ty:TypeId}{pos:String}{af:Array Edge}{gd:Option (Nat×Bool)}{e:Operand}{args:Array Operand}{j:Array TypeId}{a cs xs:List PV}{c:Code}
 (g:AU env.Γ L e=some (.clo 123 a cs)) (i:evs env.Γ L args.toList=some xs) (b:Tryz.f123.body=some c) (f:(a++xs++cs).length≤Tryz.f123.ntmps)
 (h:Ad env nx c (CG 0 (a++xs++cs)) H nx (AO env.P Tryz.f123.results.toList Q)):Aa env true ⟨dst,.call { callee:=.value e,args:=args,argTypes:=j },ty,pos,af,gd⟩ L H nx Q:=by
 have d:(match Tryz.f123.body with|some c=>Ir env.G Tryz.f123 c|none=>false)=true:=by kernel_rfl
 rw[b] at d;exact Aa.inline rfl g i (Af (by decide)) Tryz.func123 b d f h
theorem a2f{L:Vm.Frame}{H:Vm.Heap}{nx:Nat}{Q:PV→Vm.Heap→Nat→Prop}{dst:Option Tmp}{ty:TypeId}{pos:String}{af:Array Edge}{gd:Option (Nat×Bool)}{e:Operand}{args:Array Operand}{j:Array TypeId}{a cs xs:List PV}{c:Code}
 (g:AU env.Γ L e=some (.clo 160 a cs)) (i:evs env.Γ L args.toList=some xs) (b:Tryz.f160.body=some c) (f:(a++xs++cs).length≤Tryz.f160.ntmps)
 (h:Ad env nx c (CG 0 (a++xs++cs)) H nx (AO env.P Tryz.f160.results.toList Q)):Aa env true ⟨dst,.call { callee:=.value e,args:=args,argTypes:=j },ty,pos,af,gd⟩ L H nx Q:=by
 have d:(match Tryz.f160.body with|some c=>Ir env.G Tryz.f160 c|none=>false)=true:=by kernel_rfl
 rw[b] at d;exact Aa.inline rfl g i (Af (by decide)) Tryz.func160 b d f h
theorem pK:Ak env 75 [.lst 3 (cells ([]:List Int)) 0] (.p (.lst 3 (cells ([]:List Int)) 0)):=by
 refine Ak.enter (Af (by decide)) Tryz.func75 rfl (by kernel_rfl) (by simp) ?_
 repeat' (first|(refine Aj.Il 2 ?_;refine Aj.ghost (Aq.freeze 7 rfl rfl) ?_)|apply Ad.assoc|apply Ad.Bo|apply Ad.FH|apply Ad.Oy|apply Ad.ret|apply Aj.nil|apply Aj.one|(apply Aa.eqNil;rfl;rfl;rfl)|(apply Aa.assign;rfl)|(apply Aa.move;rfl)|(apply Aa.buildSlice;rfl;rfl;rfl;decide;rfl;rfl;rfl)|(apply Aa.U1;rfl;rfl;rfl;(first|rfl|omega|(simp only[List.length_take,List.length_drop,List.length_append,List.length_singleton,List.length_cons,List.length_nil]<;>omega));rfl;rfl;(intro _ h;cases h);rfl;rfl;rfl;decide;decide;(first|omega|(simp only[List.length_take,List.length_drop,List.length_append,List.length_singleton,List.length_cons,List.length_nil]<;>omega)))|(apply Ad.Rw;rfl)|(intro _))
 all_goals first|(omega)|(refine Done.ret rfl (.p (.nil _)) trivial BF.nil (an _) (ab _) ⟨rfl,rfl,rfl⟩)|(refine Done.rt rfl rfl ⟨?_,rfl,rfl⟩;try rfl)
def VW(q:Qu)(x:Int):Bool:=!Gj q x.toNat
def Jf(q:Qu)(N:List Int):List Int:=N.filter (VW q)
theorem VQ(q:Qu)(R:KE q)(s:oW)(N:iF q s.notes)(M:s.notes.length≤1000):Ak env 84 [.agg (Enc.enc q),.agg (Enc.enc s)] (.p (.lst 3 (cells (Jf q s.notes)) (Jf q s.notes).length)):=by
 have A:=fun i x=>TQ q R i x
 obtain⟨a,e,l⟩:=s;simp only at N M ⊢;rcases bp l.length with h0|h0
 ·obtain rfl:l=[]:=av.1 h0
  have u:=pK;unfold Jf;rw[List.filter_nil];refine Ak.enter (Af (by decide)) Tryz.func84 rfl (by kernel_rfl) (by simp[Tryz.ntmps84]) ?_
  repeat' (first|(apply Aa.fn;rfl;rfl;exact u;intro _;rfl)|(apply Aa.makeFunc;rfl;rfl)|(apply a3a;rfl;rfl;rfl;exact le_dec rfl)|(apply a2f;rfl;rfl;rfl;exact le_dec rfl)|refine go2 ?_|fail)
  all_goals try(exfalso;omega)
  refine Ad.b7y 0 ?_
  repeat' (first|refine go1 ?_|(apply AO.ret;rfl)|(apply Qh.zero)|(apply Ad.AV;rfl)|(apply Ad.Ah;rfl))
  all_goals first|(exfalso;omega)|contradiction|(refine Done.rt rfl rfl ⟨?_,rfl,rfl⟩;try rfl)
 have u:=XZ l h0 (by omega);unfold Jf;refine Ak.enter (Af (by decide)) Tryz.func84 rfl (by kernel_rfl) (by simp[Tryz.ntmps84]) ?_
 repeat' (first|(apply Aa.fv;rfl;rfl;exact u)|(apply Aa.makeFunc;rfl;rfl)|(apply a3a;rfl;rfl;rfl;exact le_dec rfl)|(apply a2f;rfl;rfl;rfl;exact le_dec rfl)|(apply Aa.lenV;rfl;rfl;rfl)|refine go2 ?_|fail)
 all_goals try(exfalso;omega)
 apply Ad.H8 (l.length) (fun k=>∀i,i<k→VW q (gi l i)=true) [(0,_),(1,_),(7,_)] [(2,_)] (fun k r=>(8,.p (.int .i64 (k:Int)))::r) (fun k r=>r) 3
 ·first|omega|decide
 ·first|omega|decide
 ·exact Qb
 ·exact Tt
 ·first|(intro _ _;omega)|omega|trivial
 ·intro k P x
  obtain⟨T,X⟩:=N k P;have B:=A (gi l k).toNat (by omega);rw[cJ T] at B;by_cases K:VW q (gi l k)=true
  ·have n:Gj q (gi l k).toNat=false:=by unfold VW at K;simpa using K
   rw[n] at B
   repeat' (first|(apply Aa.UZ B;rfl;rfl;exact .of_eq rfl;exact CV.AA rfl)|(apply Aa.DV;rfl;rfl;rfl;rfl;omega)|refine go2 ?_|(apply Aa.int;rfl;rfl;rfl)|(apply Ad.Ac;rfl)|(apply Ad.cond_false;rfl)|(intro _;try(exfalso;omega)))
   all_goals try(exfalso;omega)
   refine Ai.normal ⟨(all_succ x K),by first|omega|decide,?_,?_⟩
   ·exact Du
   ·exact Ec
  ·have o:VW q (gi l k)=false:=by cases h:VW q (gi l k)<;>simp_all
   have n:Gj q (gi l k).toNat=true:=by unfold VW at o;simpa using o
   rw[n] at B
   repeat' (first|(apply Aa.UZ B;rfl;rfl;exact .of_eq rfl;exact CV.AA rfl)|(apply Aa.DV;rfl;rfl;rfl;rfl;omega)|refine go2 ?_|(apply AO.ret;rfl)|(apply Aa.int;rfl;rfl;rfl)|(apply Ad.Ah;rfl)|(apply Ad.Ac;rfl)|(apply Ad.cond_true;rfl)|(intro _;try(exfalso;omega)))
   all_goals try(exfalso;omega)
   refine Ad.DR (fun s:List Int×Nat×Nat=>[(0,.vec 2 l.length 0 l.length),(1,.clo 85 [.p (.agg (Enc.enc q))] []),(5,.p (.int .i64 (s.2.1:Int))),(6,.p (.int .i64 (s.2.2:Int)))]) (fun s=>[(2,.vec 3 (cells s.1) l.length false)]) 3 (fun s=>SH (VW q) l s.1 s.2.1 s.2.2) (fun s=>l.length-s.2.2) (l,k,k+1) (by decide) (SH.start P o x) ⟨by decide,?_,?_⟩ ?_
   ·exact Du
   ·exact Ec
   rintro⟨d,i,j⟩ f;simp only at f ⊢;have O:=f.len;have V:=f.ij;have U:=f.jn;by_cases C:j<l.length
   ·obtain⟨S,W⟩:=N j C
    have b:=A (gi l j).toNat (by omega);rw[cJ S] at b;have F:=f.at_ C;by_cases G:VW q (gi l j)=true
    ·have g:Gj q (gi l j).toNat=false:=by unfold VW at G;simpa using G
     rw[g] at b;rw[← F] at b
     repeat' (first|(apply Aa.UZ b;rfl;rfl;exact .of_eq rfl;exact CV.AA rfl)|(apply Aa.J9 (y:=gi d j);rfl;rfl;rfl;trivial;(first|rfl|(refine congrArg (fun t=>[PV.p (FV.int _ t)]) ?_;first|omega|(simp only[Int.natCast_add,Int.natCast_mul,Int.natCast_ediv,Int.natCast_emod]<;>omega)));rfl;rfl;decide;(first|omega|(simp only[List.length_set]<;>omega)))|(apply Aa.lenV;rfl;rfl;rfl)|(apply Aa.DV;rfl;rfl;rfl;rfl;omega)|refine go2 ?_|(apply Aa.int;rfl;rfl;rfl)|(apply Ad.Ac;rfl)|(apply Ad.cond_true;rfl)|(intro _;try(exfalso;omega)))
     all_goals try(exfalso;omega)
     refine Ai.normal ⟨(d.set i (gi l j),i+1,j+1),f.put C G,by simp only;omega,⟨by omega,?_,?_⟩⟩
     ·exact Du
     ·rw[← F]
      exact Ec
    ·have m:VW q (gi l j)=false:=by cases h:VW q (gi l j)<;>simp_all
     have g:Gj q (gi l j).toNat=true:=by unfold VW at m;simpa using m
     rw[g] at b;rw[← F] at b
     repeat' (first|(apply Aa.UZ b;rfl;rfl;exact .of_eq rfl;exact CV.AA rfl)|(apply Aa.lenV;rfl;rfl;rfl)|(apply Aa.DV;rfl;rfl;rfl;rfl;omega)|refine go2 ?_|(apply Aa.int;rfl;rfl;rfl)|(apply Ad.Ac;rfl)|(apply Ad.cond_false;rfl)|(intro _;try(exfalso;omega)))
     all_goals try(exfalso;omega)
     refine Ai.normal ⟨(d,i,j+1),f.skip C m,by simp only;omega,⟨by omega,?_,?_⟩⟩
     ·exact Du
     ·exact Ec
   ·obtain rfl:j=l.length:=by omega
    obtain⟨f1,f2⟩:=f.fin;rw[← f1,show(d.take i).length=i by rw[ar];omega];have I:∀z,((Dh (cells d) (0+i*1) z).take (i*1))=cells (d.take i):=fun z=>by
     rw[PD _ _ _ (show i*1≤0+i*1 by omega)];exact O5 d i
    have J:∀z,i*1≤(Dh (cells d) (0+i*1) z).length:=fun z=>by
     rw[Qo,C9,O];show i*1≤l.length*1;omega
    repeat' (first|(refine Ag.Il 4 ?_;refine Ag.ghost (Aq.uV 10 (i*1) rfl rfl (by omega) (J _)) ?_)|apply Ad.assoc|apply Ad.Bo|apply Ad.FT|apply BL.normal|(apply AO.ret;rfl)|apply Bl.exit|apply Ai.exit|apply Ad.ret|apply Aj.nil|apply Ag.nil|apply Aj.one|(apply Ag.bar;decide +kernel)|(apply Aa.pz (sz:=1) (a:=i) (c:=l.length);rfl;rfl;omega;rfl;rfl;rfl;exact⟨_,rfl⟩;rfl;omega;exact ab _)|(apply Aa.pz (sz:=1) (a:=0) (c:=i);rfl;rfl;omega;rfl;rfl;rfl;rfl;exact⟨_,rfl⟩;omega;omega)|(apply Aa.clear;rfl;rfl;omega;omega;rfl;rfl;rfl;decide;(rw[C9,O];show 0+i*1+(l.length-i)*1≤l.length*1;omega))|(apply Aa.assign;rfl)|(apply Aa.move;rfl)|(apply Aa.int;rfl;rfl;rfl)|(apply Aa.lenV;rfl;rfl;rfl)|(apply Ad.Ac;rfl)|(intro _;try(exfalso;omega)))
    all_goals first|(exfalso;omega)|(refine Done.rt rfl rfl ⟨?_,rfl,rfl⟩;exact congrArg (fun c=>PV.p (FV.lst 3 c i)) (I _))
 ·intro x
  rw[filter_all x]
  repeat' (first|(refine Ag.Il 4 ?_;refine Ag.ghost (Aq.freeze 10 rfl rfl) ?_)|apply Ad.assoc|apply Ad.Bo|apply Ad.Oy|apply Ad.FT|apply BL.normal|(apply AO.ret;rfl)|apply Bl.exit|apply Ai.exit|apply Ad.ret|apply Aj.nil|apply Ag.nil|apply Aj.one|(apply Ag.bar;decide +kernel)|(apply Aa.assign;rfl)|(apply Aa.move;rfl)|(apply Aa.int;rfl;rfl;rfl)|(apply Ad.AV;rfl)|(apply Ad.Ac;rfl)|(intro _;try(exfalso;omega)))
  all_goals first|(exfalso;omega)|(refine Done.rt rfl rfl ⟨?_,rfl,rfl⟩;try rfl)
theorem Y7(p:Fe){i:Nat}(a:i<(Bq p).length):gi (Bq p) i=⟨gi (DC p) i,gi (DC p) (i+1),snd p (gi (DC p) i)⟩:=by
 unfold Bq b0k at a ⊢;rw[Cc] at a;exact Dy _ a
theorem O8(p:Fe):(Bq p).length≤2*p.notes.length+1:=by
 have c:=vX (snd p) (DC p);have a:=Yw ((UJ p p.notes.length).mergeSort fun x y=>decide (x≤y));rw[gS,Zw] at a;have b:(DC p).length≤_:=a;show(b0k (snd p) (DC p)).length≤_;omega
def DJ(q:Qu)(i:Nat):List Int:=(gi (Bq q.p) i).notes
theorem Jo{q:Qu}{i:Nat}(b:i<(Bq q.p).length):iF q (DJ q i):=by
 unfold DJ;rw[Y7 _ b];exact fun k a=>b2y a
theorem aj{q:Qu}(a:KE q){i:Nat}(b:i<(Bq q.p).length):(DJ q i).length≤1000:=by
 unfold DJ;rw[Y7 _ b];exact am (QZ q.p _ _) a.p.notes
theorem KW(q:Qu)(a:KE q):Ak env 38 [.agg (Enc.enc q)] (.p (.lst 81 (cells (Bq q.p)) (Bq q.p).length)):=by
 have h:=X3 a.o.sm a.e a.p;refine Ak.enter (Af (by decide)) Tryz.func38 rfl (by kernel_rfl) (by simp) ?_
 repeat' (first|(apply Aa.fn;rfl;rfl;exact h;intro _;rfl)|refine go2 ?_|fail)
 all_goals first|(omega)|(refine Done.rt rfl rfl ⟨?_,rfl,rfl⟩;try rfl)
theorem b6h{L:Vm.Frame}{H:Vm.Heap}{nx:Nat}{Q:PV→Vm.Heap→Nat→Prop}{dst:Option Tmp}{ty:TypeId}{pos:String}{af:Array Edge}{gd:Option (Nat×Bool)}{e:Operand}{args:Array Operand}{j:Array TypeId}{a cs xs:List PV}{c:Code}
 (g:AU env.Γ L e=some (.clo 82 a cs)) (i:evs env.Γ L args.toList=some xs) (b:Tryz.f82.body=some c) (f:(a++xs++cs).length≤Tryz.f82.ntmps)
 (h:Ad env nx c (CG 0 (a++xs++cs)) H nx (AO env.P Tryz.f82.results.toList Q)):Aa env true ⟨dst,.call { callee:=.value e,args:=args,argTypes:=j },ty,pos,af,gd⟩ L H nx Q:=by
 have d:(match Tryz.f82.body with|some c=>Ir env.G Tryz.f82 c|none=>false)=true:=by kernel_rfl
 rw[b] at d;exact Aa.inline rfl g i (Af (by decide)) Tryz.func82 b d f h
theorem b4w{L:Vm.Frame}{H:Vm.Heap}{nx:Nat}{Q:PV→Vm.Heap→Nat→Prop}{dst:Option Tmp}{ty:TypeId}{pos:String}{af:Array Edge}{gd:Option (Nat×Bool)}{e:Operand}{args:Array Operand}{j:Array TypeId}{a cs xs:List PV}{c:Code}
 (g:AU env.Γ L e=some (.clo 97 a cs)) (i:evs env.Γ L args.toList=some xs) (b:Tryz.f97.body=some c) (f:(a++xs++cs).length≤Tryz.f97.ntmps)
 (h:Ad env nx c (CG 0 (a++xs++cs)) H nx (AO env.P Tryz.f97.results.toList Q)):Aa env true ⟨dst,.call { callee:=.value e,args:=args,argTypes:=j },ty,pos,af,gd⟩ L H nx Q:=by
 have d:(match Tryz.f97.body with|some c=>Ir env.G Tryz.f97 c|none=>false)=true:=by kernel_rfl
 rw[b] at d;exact Aa.inline rfl g i (Af (by decide)) Tryz.func97 b d f h
def c8o(q:Qu)(l:List Int):Int:=Ej (fun i=>!MJ q (DJ q i) l) (Bq q.p).length
theorem iD(q:Qu)(b:KE q)(s:oW)(d:iF q s.notes)(a:s.notes.length≤1000):D7 env 83 ([.p (.agg (Enc.enc s))]++[.ref 0 0]) [(0,.box 36 ((Enc.enc q).map .p))] 1 (.bool (decide (12<(Jf q s.notes).length))):=by
 have c:=VQ q b s d a;have e:decide (12<(Jf q s.notes).length)=decide (((Jf q s.notes).length:Int)>12):=by
  grind
 rw[e];generalize Jf q s.notes=M at *;refine D7.enter (Af (by decide)) Tryz.func83 rfl (by kernel_rfl) (by simp) ?_
 repeat' (first|(apply Aa.fn;rfl;rfl;exact c;intro _;rfl)|refine go2 ?_|(apply Aa.int;rfl;rfl;rfl))
 all_goals first|(exfalso;omega)|(refine Done.ret rfl (.refl _) trivial ?_ (by omega) (ab _) ⟨?_,rfl,rfl⟩;exact Ec;try rfl)
def b4l(q:Qu):Bool:=decide (0≤Ej (fun i=>decide (12<(Jf q (DJ q i)).length)) (Bq q.p).length)
theorem Vg(q:Qu)(c:KE q):Ak env 36 [.agg (Enc.enc q)] (.p (.bool (b4l q))):=by
 have m:=KW q c;have l:=O8 q.p;have n:=c.p.notes;have j:∀k,k<(Bq q.p).length→D7 env 83 ([.p (.agg (Enc.enc (gi (Bq q.p) k)))]++[.ref 0 0]) [(0,.box 36 ((Enc.enc q).map .p))] 1 (.bool (decide (12<(Jf q (DJ q k)).length))):=fun k a=>iD q c _ (Jo a) (aj c a)
 unfold b4l;generalize hP:(fun i=>decide (12<(Jf q (DJ q i)).length))=P at *;have j:∀k,k<(Bq q.p).length→D7 env 83 ([.p (.agg (Enc.enc (gi (Bq q.p) k)))]++[.ref 0 0]) [(0,.box 36 ((Enc.enc q).map .p))] 1 (.bool (P k)):=fun k a=>by grind
 generalize Bq q.p=S at *;refine Ak.enter (Af (by decide)) Tryz.func36 rfl (by kernel_rfl) (by simp) ?_
 repeat' (first|(apply Aa.fn;rfl;rfl;exact m;intro _;rfl)|(apply Aa.makeFunc;rfl;rfl)|(apply b6h;rfl;rfl;rfl;exact le_dec rfl)|(apply b4w;rfl;rfl;rfl;exact le_dec rfl)|refine go2 ?_|fail)
 all_goals try(exfalso;omega)
 apply Ad.H8 (S.length) (fun k=>Yh P S.length (S.length-k)=Ej P S.length) [(0,_),(1,_),(7,_)] [(0,_)] (fun k r=>(8,.p (.int .i64 (k:Int)))::r) (fun k r=>r) 1
 ·simp
 ·simp
 ·exact Qb
 ·exact Tt
 ·rfl
 ·intro k a d
  have e:=j k a;by_cases f:P k=true
  ·rw[f] at e
   have h:Ej P S.length=(k:Int):=by rw[← d,Y8 a f]
   rw[h]
   repeat' (first|(apply Aa.read [0] e;rfl;rfl;exact .of_eq rfl;exact CV.AA rfl;exact Dk rfl;(repeat(first|exact trivial|refine⟨⟨_,rfl,.of_eq rfl⟩,?_⟩));decide;(intro _ g;simp at g<;>omega);rfl)|(apply Aa.Ap;rfl;rfl;rfl;omega;rfl)|refine go2 ?_|(apply AO.ret;rfl)|(apply Aa.int;rfl;rfl;rfl)|(apply Ad.Ac;rfl)|(apply Ad.cond_true;rfl)|(intro _;try(exfalso;omega)))
   all_goals first|(exfalso;omega)|contradiction|(refine Done.rt rfl rfl ⟨?_,rfl,rfl⟩;try rfl)
  ·have b:P k=false:=by simpa using f
   rw[b] at e
   repeat' (first|(apply Aa.read [0] e;rfl;rfl;exact .of_eq rfl;exact CV.AA rfl;exact Dk rfl;(repeat(first|exact trivial|refine⟨⟨_,rfl,.of_eq rfl⟩,?_⟩));decide;(intro _ g;simp at g<;>omega);rfl)|(apply Aa.Ap;rfl;rfl;rfl;omega;rfl)|refine go2 ?_|(apply Aa.int;rfl;rfl;rfl)|(apply Ad.Ac;rfl)|(apply Ad.cond_false;rfl)|(intro _;try(exfalso;omega)))
   all_goals try(exfalso;omega)
   all_goals try contradiction
   refine Ai.normal ⟨((U6 a b).symm.trans d),by first|omega|decide,?_,?_⟩
   ·exact Du
   ·exact Ec
 ·intro d
  have h:Ej P S.length=-1:=by rw[← d,cG];rfl
  rw[h]
  repeat' (first|refine go1 ?_|(apply AO.ret;rfl)|(apply Ad.Ac;rfl)|(intro _;try(exfalso;omega)))
  all_goals first|(exfalso;omega)|(refine Done.rt rfl rfl ⟨?_,rfl,rfl⟩;try rfl)
noncomputable def hcE(q:Qu):Int:=if Ui q.o q.p=0 then a9v q.y else Ui q.o q.p
theorem zK{q:Qu}(a:KE q):hcE q=0:=by
 unfold hcE;rw[if_pos a.e,Zx a.y]
theorem Rf(q:Qu)(d:Tm q.o)(c:Yo q.p):Ak env 33 [.agg (Enc.enc q)] (.p (.int .i64 (hcE q))):=by
 have a:=Ns q.o q.p d c;have b:=Jg q.y;unfold hcE;generalize Ui q.o q.p=e1 at *;by_cases h:e1=0
 ·subst h
  refine Ak.enter (Af (by decide)) Tryz.func33 rfl (by kernel_rfl) (by simp) ?_
  repeat' (first|(apply Aa.fn;rfl;rfl;exact a;intro _;rfl)|(apply Aa.fn;rfl;rfl;exact b;intro _;rfl)|refine go2 ?_|(apply Aa.int;rfl;rfl;rfl)|(apply Ad.Ah;rfl))
  all_goals first|(exfalso;omega)|contradiction|(refine Done.rt rfl rfl ⟨?_,rfl,rfl⟩;try rfl)
 ·rw[if_neg h]
  refine Ak.enter (Af (by decide)) Tryz.func33 rfl (by kernel_rfl) (by simp) ?_
  repeat' (first|(apply Aa.fn;rfl;rfl;exact a;intro _;rfl)|refine go2 ?_|(apply Aa.int;rfl;rfl;rfl)|(apply Ad.Ac;rfl)|(intro _))
  all_goals first|(exfalso;omega)|contradiction|(refine Done.rt rfl rfl ⟨?_,rfl,rfl⟩;try rfl)
def c9o(q:Qu)(l:List Int)(i:Nat):Bool:=decide (0≤gi l i)&&decide (gi l i≤2)&&!(Gj q i != decide (gi l i=2))
def c5w(q:Qu)(l:List Int):Int:=if l.length=q.p.notes.length then if Ej (fun i=>!c9o q l i) l.length=-1 then 0 else 12 else 5
def d4w(q:Qu)(l:List Int):Int:=if c5w q l=0 then if 0≤c8o q l then 24 else 0 else c5w q l
def mvC(a b:WW):Int:=max (a.k-b.k) (b.k-a.k)+if a.d=b.d then 0 else 12
def WW.Ok(a:WW):Prop:=0≤a.k∧a.k≤127
theorem Zl{a b:WW}(d:a.Ok)(c:b.Ok):0≤mvC a b∧mvC a b≤139:=by
 obtain⟨f,e⟩:=d;obtain⟨b1,b2⟩:=c;unfold mvC;split<;>omega
theorem jZ(a b:WW)(e:a.Ok)(c:b.Ok):Ak env 57 [.agg (Enc.enc a),.agg (Enc.enc b)] (.p (.int .i64 (mvC a b))):=by
 obtain⟨g,f⟩:=e;obtain⟨b1,b2⟩:=c;unfold mvC;by_cases h:a.d=b.d
 ·rw[if_pos h,Int.add_zero]
  refine Ak.enter (Af (by decide)) Tryz.func57 rfl (by kernel_rfl) (by simp) ?_
  repeat' (first|refine JD ?_|(apply Aa.b6y;rfl;rfl)|(apply Ad.Ac;rfl)|(intro _))
  all_goals first|(omega)|contradiction|(refine Done.rt rfl rfl ⟨?_,rfl,rfl⟩;try rfl)
 ·rw[if_neg h]
  refine Ak.enter (Af (by decide)) Tryz.func57 rfl (by kernel_rfl) (by simp) ?_
  repeat' (first|refine JD ?_|(apply Aa.b6y;rfl;rfl)|(apply Ad.Ac;rfl)|(intro _))
  all_goals first|(exfalso;omega)|contradiction|(refine Done.rt rfl rfl ⟨?_,rfl,rfl⟩;try rfl)
structure Pos where
 h:Int
 i:Int
 c:WW
deriving DecidableEq
instance:Enc Pos:={ default:=⟨0,0,⟨0,0⟩⟩,enc:=fun x=>[.int .i64 x.h,.int .i64 x.i,.int .i64 x.c.d,.int .i64 x.c.k],size:=4,len:=fun _=>rfl }
def GL(q:Qu)(l:List Int)(h:Int)(i:Nat):Bool×WW:=V7 q.p (DJ q i) l h (DJ q i).length
def JA(q:Qu)(l:List Int)(h:Int):Nat→List Pos
 |0=>[]
 |k+1=>if(GL q l h k).1=true then JA q l h k++[⟨h,k,(GL q l h k).2⟩] else JA q l h k
def b9p(q:Qu)(l:List Int):List Pos:=JA q l 0 (Bq q.p).length++JA q l 1 (Bq q.p).length
def csK(L:List Pos):Nat→Int
 |0=>0
 |k+1=>if(gi L (k+1)).h=(gi L k).h then csK L k+mvC (gi L k).c (gi L (k+1)).c else csK L k
def QW(q:Qu)(l:List Int):Int:=csK (b9p q l) ((b9p q l).length-1)
theorem bJ{q:Qu}(a:KE q){N:List Int}(c:iF q N)(l:List Int)(h:Int):∀k,k≤N.length→(V7 q.p N l h k).2.Ok
 |0,_=>⟨bl _,by show(0:Int)≤127;omega⟩
 |k+1,hk=>by
  have e:=bJ a c l h k (by omega);obtain⟨m,j⟩:=c k (by omega);have b:=a.p.note (gi N k).toNat (by omega);have g:=a.o.cmp (i:=(gi q.p.notes (gi N k).toNat).d.toNat) (by have:=b.d;omega);have f:=b.k;unfold V7;split
  ·exact⟨by grind,by grind⟩
  omega
end Go.Proofs.YtnjkoebfgcbbdaaGreatDoor
