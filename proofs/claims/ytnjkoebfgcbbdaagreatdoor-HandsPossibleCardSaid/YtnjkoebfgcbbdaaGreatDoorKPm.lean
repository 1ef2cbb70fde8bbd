/-
  Texts of a proof, merged (PieH, PieI, Pop, Vm39, Vm44, HanA, PieM, OrQd, PieR). Conditions: in each statement.
-/
import Derived.Test.YtnjkoebfgcbbdaaGreatDoorKPl
set_option linter.unusedSimpArgs false
set_option linter.unusedVariables false
set_option linter.unusedSectionVars false
set_option maxRecDepth 100000
set_option maxHeartbeats 8000000
abbrev aE:=@Int.toNat_natCast
abbrev df:=@List.nodup_cons
abbrev eZ:=@List.Pairwise.map
abbrev fI:=@Nat.and_two_pow_sub_one_eq_mod
abbrev fY:=@List.mem_mergeSort
abbrev gS:=@List.length_mergeSort
namespace Go.Proofs.YtnjkoebfgcbbdaaGreatDoor
open Go Go.Am Go.Vm Go.Pie
attribute [local irreducible] Aa Aj Ag Ad AL Ak Bd BL Bl Ai Vm.Done BD AO
attribute [local irreducible] CJ Bf Eb DW EF A8 Cj
instance:Enc (List Int):={ default:=[],enc:=fun l=>[.lst 3 (cells l) l.length],size:=1,len:=fun _=>rfl }
def Np(p:Fe)(L:List Int)(d:Nat):Nat→List Int
 |0=>[]
 |k+1=>if(gi p.notes (gi L k).toNat).d=(d:Int) then Np p L d k++[(gi p.notes (gi L k).toNat).k] else Np p L d k
theorem mZ(p:Fe)(L:List Int)(d:Nat):∀k,(Np p L d k).length≤k
 |0=>ab _
 |k+1=>by
  have:=mZ p L d k;unfold Np;grind
theorem Zk{p:Fe}{t:Int}:∀{k:Nat} {x:Int},x∈L9 p t k→0≤x∧x<k
 |0,x,h=>by cases h
 |k+1,x,h=>by
  unfold L9 at h;split at h
  ·rcases bq.1 h with h|h
   ·have:=Zk h;omega
   grind
  ·have:=Zk h;omega
theorem gi_mem'{l:List Int}{i:Nat}(h:i<l.length):gi l i∈l:=by
 unfold gi;grind
theorem b2y{p:Fe}{t:Int}{i:Nat}(h:i<(snd p t).length):0≤gi (snd p t) i∧gi (snd p t) i<p.notes.length:=Zk (gi_mem' h)
theorem XQ:∀l:List (List Int),cells l=l.map fun a=>FV.lst 3 (cells a) a.length
 |[]=>rfl
 |a::l=>by
  rw[bt,← XQ l];rfl
theorem WO.cmp{o:FQ}(h:WO o){i:Nat}(hi:i<o.Ae.length):0≤(gi o.Ae i).lo∧(gi o.Ae i).hi≤127:=by
 have a:=h.err;unfold VI at a;split at a
 ·omega
 split at a
 ·omega
 split at a
 ·omega
 split at a
 ·omega
 split at a
 ·omega
 split at a
 ·omega
 rename_i b;have b:GI o.ranks o.Ae 0=0:=bx b;have:=RN _ 0 rfl b i (an _) hi;unfold DW at this;split at this
 ·omega
 rename_i c;unfold Xg at c;omega
def tlK(p:Fe)(L:List Int)(k:Nat)(j:Nat):HB:=.vec 3 (cells (Np p L j k)) (Np p L j k).length true
def kdV(p:Fe)(L:List Int)(nd k:Nat):HB:=.EX 28 ((List.range nd).map fun j=>.vec (4+j) (Np p L j k).length 0 (Np p L j k).length) nd
theorem iL{p:Fe}{L:List Int}{b k:Nat}(h:b≤8):(kdV p L b k).under 12:=by
 show CV.under 12 _;have:∀l:List Nat,(∀j∈l,j<b)→CV.under 12 (l.map fun j=>PV.vec (4+j) (Np p L j k).length 0 (Np p L j k).length):=by
  intro l
  induction l with
  |nil=>intro _;trivial
  |cons a l d=>exact fun c=>⟨by show 4+a<12;have:=c a (by simp);omega,d fun j e=>c j (ao _ e)⟩
 grind
theorem a2d{o:FQ}{p:Fe}(a:WO o)(h:pV o p){L:List Int}(e:∀i,i<L.length→0≤gi L i∧gi L i<p.notes.length){d:Nat}:∀k,k≤L.length→∀i,i<(Np p L d k).length→0≤gi (Np p L d k) i∧gi (Np p L d k) i≤127
 |0,_,i,hi=>by cases hi
 |k+1,hk,i,hi=>by
  have f:=a2d a h e (d:=d) k (by omega);unfold Np at hi ⊢;split
  ·rename_i g
   have b:=h.note (gi L k).toNat (by grind);have j:=a.cmp (i:=(gi p.notes (gi L k).toNat).d.toNat) (by have:=b.d;omega);have c:=b.k;rcases aq i (Np p L d k).length with h1|h1
   ·rw[OD h1];grind
   ·obtain rfl:i=(Np p L d k).length:=by grind
    rw[Oh];omega
  grind
noncomputable def wG(o:FQ)(p:Fe)(t:Int):List FP:=Bc (fun d=>Y1 (Np p (snd p t) d (snd p t).length) (Np p (snd p t) d (snd p t).length).length) o.Ae.length
theorem a5p{o:FQ}{p:Fe}(G:WO o)(h:pV o p)(t:Int)(he:atE o p t=0):Ak env 27 [.agg (Enc.enc o),.agg (Enc.enc p),.int .i64 t] (.D5 [.p (.lst 84 (cells (wG o p t)) (wG o p t).length),.p (.int .i64 0)]):=by
 have T:=yP o p G.sm h.sm t;rw[he] at T;have Z:=Yq p h.sm t;have W:=G.Ae;have S:=fun i=>b2y (p:=p) (t:=t) (i:=i)
 have Y:(snd p t).length≤1000:=am (QZ p t _) h.notes;have n1:=h.notes;unfold wG;generalize snd p t=L at *;refine Ak.enter (Af (by decide)) Tryz.func27 rfl (by kernel_rfl) (by simp[Tryz.ntmps27]) ?_
 repeat' (first|(refine Aj.Il 32 ?_;refine Aj.ghost (Aq.freeze 31 rfl rfl) ?_)|apply Ad.assoc|apply Ad.Bo|apply Ad.FH|apply Ad.EG|apply Aj.nil|apply Aj.one|(apply Aa.fn;rfl;rfl;exact T;intro _;rfl)|(apply Aa.fv;rfl;rfl;exact Z)|(apply Aa.JQ o.Ae.length (⟨⟩:a5c);rfl;rfl;rfl;rfl;rfl;rfl;rfl;omega;decide;decide;rfl)|(apply Aa.assign;rfl)|(apply Aa.move;rfl)|(apply Aa.int;rfl;rfl;rfl)|(apply Aa.load;rfl;rfl)|(apply Aa.vJ;rfl;rfl)|(apply Aa.HY;rfl;rfl;rfl)|(apply Aa.box;rfl;trivial)|(apply Ad.Ah;rfl))
 all_goals try(exfalso;omega)
 all_goals try contradiction
 refine Ad.ghost (Aq.b5y 2 rfl (by omega)) ?_;refine Ad.ghost (H':=[(2,.EX 28 ((cells (List.replicate o.Ae.length (⟨⟩:a5c))).map .p) o.Ae.length),(1,.box 32 ((Enc.enc p).map .p)),(0,.box 27 ((Enc.enc o).map .p))]++Cj 4 8 (fun _=>.vec 3 [] 0 true)) (Aq.b2d (H:=[(2,.EX 28 ((cells (List.replicate o.Ae.length (⟨⟩:a5c))).map .p) o.Ae.length),(1,.box 32 ((Enc.enc p).map .p)),(0,.box 27 ((Enc.enc o).map .p))]) 3 8 (Ot (by decide) (Ot (by decide) (Ot (by decide) a0t)))) ?_;refine Ad.ghost (Aq.useCells 2 4 (n:=o.Ae.length) o.Ae.length (fun j c=>CO (by omega) (CO (by omega) (CO (by omega) (Hu (by omega))))) (fun j c=>by omega) ((show hget _ 2=some (HB.EX 28 ((cells (List.replicate o.Ae.length (⟨⟩:a5c))).map .p) o.Ae.length) from rfl).trans (congrArg (fun l=>some (HB.EX 28 l o.Ae.length)) (jH _))) (ab _)) ?_;apply Ad.GU (L.length) [(4,_),(9,_),(31,_),(32,_)] [] (fun k r=>(33,.p (.int .i64 (k:Int)))::r) (fun k _=>(2,kdV p L o.Ae.length k)::(1,.box 32 ((Enc.enc p).map .p))::Cj 4 8 (tlK p L k)) 12
 ·first|omega|decide
 ·first|omega|decide
 ·exact Qb
 ·refine⟨⟨Ba rfl,iL W.2,_,rfl,.of_eq ?_⟩,⟨Ba rfl,CV.Bg _ _,_,rfl,.refl _⟩,BF.tail (fun j c=>?_) (by omega) (fun j c=>trivial)⟩
  ·unfold kdV
   rw[cG];simp only[List.replicate_zero,List.append_nil];rfl
  ·refine En (by omega) (CO (by omega) (CO (by omega) (CO (by omega) ?_)))
   exact Hu c
 ·intro k x
  obtain⟨g1,g2⟩:=S k x;obtain⟨m,O⟩:∃m:Nat,gi L k=(m:Int):=⟨(gi L k).toNat,by omega⟩
  have I:m<p.notes.length:=by omega
  have U:=h.note m I;obtain⟨j,c⟩:∃j:Nat,(gi p.notes m).d=(j:Int):=⟨(gi p.notes m).d.toNat,by have:=U.d;omega⟩
  have J:j<o.Ae.length:=by have:=U.d;omega
  have s:∀i,Np p L i (k+1)=if i=j then Np p L i k++[(gi p.notes m).k] else Np p L i k:=fun i=>by
   show(if(gi p.notes (gi L k).toNat).d=(i:Int) then Np p L i k++[(gi p.notes (gi L k).toNat).k] else Np p L i k)=_;rw[O,aE,c];by_cases e:i=j
   ·subst e;rw[if_pos rfl,if_pos rfl]
   ·rw[if_neg e,if_neg (by omega)]
  have hkl:=mZ p L j k;have A:hget (Cj 4 8 (tlK p L k)) (4+j)=some (.vec 3 (cells (Np p L j k)) (Np p L j k).length true):=Hu (by omega);have C:∀y,hput (Cj 4 8 (tlK p L k)) (4+j) y=Cj 4 8 (fun i=>if i=j then y else tlK p L k i):=fun y=>Wq (by omega)
  repeat' (first|(refine Ag.atIdx 11 ?_;apply Ag.weak [.tmp 43];decide +kernel;rfl;rfl;exact TP.vec (by(repeat(first|exact A|(refine En (by omega) ?_)|(refine CO (by omega) ?_))));decide +kernel;exact c1s rfl rfl (by omega))|apply Ad.Bo|apply Ad.region|apply Ad.E5|apply Ad.FH|apply Ad.EG|apply BL.normal|apply Bl.normal|apply Aj.nil|apply Ag.nil|apply Aj.one|(apply Ag.bar;decide +kernel)|apply Ag.quiet|(apply Aa.Ap (l:=p.notes) (i:=m);rfl;exact congrArg (fun b=>some (PV.p (.int .i64 b))) O;rfl;omega;rfl)|(apply Aa.c2f (i:=j);rfl;rfl;exact congrArg (fun b=>some (PV.p (.int .i64 b))) c;rfl;omega)|(apply Aa.c4z;rfl;rfl;rfl;(show(List.map _ (List.range o.Ae.length))[j*1]?=_;rw[fb];exact UW _ J))|(apply Aa.sK (l:=Np p L j k) (a:=(gi p.notes m).k);rfl;((repeat(first|exact A|(refine En (by omega) ?_)|(refine CO (by omega) ?_))));rfl;rfl;rfl;rfl;rfl;rfl;(intro _ h;cases h);rfl;rfl;rfl;decide;decide;omega;((repeat(first|exact C _|(apply YB;omega)|(apply Om;omega)))))|(apply Aa.c1w;rfl;rfl;rfl;trivial;rfl;rfl;decide;(show j*1+1≤(List.map _ (List.range o.Ae.length)).length;rw[aM,eV];omega))|(apply Aa.assign;rfl)|(apply Aa.move;rfl)|(apply Aa.MH;rfl;rfl;omega)|(apply Aa.int;rfl;rfl;rfl)|(apply Aa.Ap;rfl;rfl;rfl;omega;rfl)|(apply Aa.load;rfl;rfl)|(apply Aa.HY;rfl;rfl;rfl)|(apply Aa.alloc;rfl)|(apply Aa.Gl;rfl;rfl;rfl;trivial;rfl;rfl;exact Ba rfl;exact le_dec rfl)|(apply Aa.buildSlice;rfl;rfl;rfl;decide;rfl;rfl;rfl)|(apply Ad.Ac;rfl)|(intro _;try(exfalso;omega)))
  all_goals try(exfalso;omega)
  refine Ai.normal ⟨by first|omega|decide,?_,?_⟩
  ·exact Du
  ·refine⟨⟨Ba rfl,iL W.2,_,rfl,.of_eq ?_⟩,⟨Ba rfl,CV.Bg _ _,_,rfl,.refl _⟩,BF.tail (fun i P=>?_) (by omega) (fun j c=>trivial)⟩
   ·show HB.EX 28 (List.set ((List.range o.Ae.length).map fun j=>PV.vec (4+j) (Np p L j k).length 0 (Np p L j k).length) (j*1) (.vec (4+j) ((Np p L j k).length+1) 0 ((Np p L j k).length+1))) o.Ae.length=kdV p L o.Ae.length (k+1)
    unfold kdV;rw[fb,Tv];congr 1
    refine PO fun i P=>?_
    rw[s i];by_cases e:i=j
    ·subst e;rw[if_pos rfl,if_pos rfl];simp
    ·rw[if_neg e,if_neg e]
   ·repeat(first|(refine En (by omega) ?_)|(refine CO (by omega) ?_))
    rw[Hu P];unfold tlK;rw[s i];by_cases e:i=j
    ·subst e;rw[if_pos rfl,if_pos rfl];simp
    ·rw[if_neg e,if_neg e]
 ·obtain⟨H',N,X⟩:=Aq.sJ (E:=env) (L:=(33,.p (.int .i64 (L.length:Int)))::_) (H:=(2,kdV p L o.Ae.length L.length)::(1,.box 32 ((Enc.enc p).map .p))::Cj 4 8 (tlK p L L.length)) (nx:=12) 2 4 o.Ae.length (fun j=>cells (Np p L j L.length)) (fun j=>(Np p L j L.length).length) (z:=true) rfl (fun j c=>CO (by omega) (CO (by omega) (Hu (by omega)))) (fun j c=>by omega)
  refine Ad.ghost X ?_;obtain⟨f,q⟩:∃f,f=(List.range o.Ae.length).map fun j=>Np p L j L.length:=⟨_,rfl⟩
  have K:cells f=(List.range o.Ae.length).map fun j=>FV.lst 3 (cells (Np p L j L.length)) (Np p L j L.length).length:=by
   rw[XQ,q,fp];rfl
  have hKl:f.length=o.Ae.length:=by rw[q];simp
  have g:∀d,d<o.Ae.length→gi f d=Np p L d L.length:=fun d hd=>by
   unfold gi;rw[q,UW _ hd];rfl
  refine Ad.ghost (Aq.b0v 2 (cells f) N (by omega) (by rw[K,fp];rfl)) ?_;refine Ad.weaken (L0:=[(9,.vec 2 o.Ae.length 0 o.Ae.length),(32,.p (.int .i64 (L.length:Int))),(33,.p (.int .i64 (L.length:Int)))]) (H0:=[(2,.vec 28 (cells f) o.Ae.length false)]) (CP:=12) (by decide) ⟨by decide,by exact Du,⟨⟨Ba rfl,trivial,_,by rw[Fq,if_pos rfl,N];rfl,.refl _⟩,trivial⟩⟩ ?_
  repeat' (first|(apply Aa.lenV;rfl;rfl;rfl)|refine go1 ?_|(apply Ad.Ac;rfl)|(intro _;try(exfalso;omega)))
  all_goals try(exfalso;omega)
  refine Ad.ghost (Aq.adopt 13 84 rfl) ?_;obtain⟨F,V⟩:∃F:Nat→FP,F=fun d=>Y1 (Np p L d L.length) (Np p L d L.length).length:=⟨_,rfl⟩
  rw[← V];apply Ad.GU (o.Ae.length) [(56,_),(57,_)] [(2,_)] (fun k r=>(58,.p (.int .i64 (k:Int)))::(13,.vec 12 (Bc F k).length 0 (Bc F k).length)::r) (fun k r=>(12,.vec 84 (cells (Bc F k)) (Bc F k).length true)::r) 13
  ·first|omega|decide
  ·first|omega|decide
  ·exact Qb
  ·exact Tt
  ·intro k x
   have hl:=Cc F k;have s:Bc F (k+1)=Bc F k++[F k]:=rfl;have B:(Bc F (k+1)).length=(Bc F k).length+1:=by rw[s];simp
   have hk3:=mZ p L k L.length;have u:=VT (gi f k) (by rw[g k x];omega) (by
    rw[g k x];exact a2d G h S L.length (ab _))
   have M:Enc.enc (Y1 (gi f k) (gi f k).length)=Enc.enc (F k):=by rw[g k x,V]
   rw[M] at u
   repeat' (first|(apply Aa.fn;rfl;rfl;exact u;intro _;rfl)|(apply Aa.Dn (a:=F k);rfl;rfl;rfl;rfl;rfl;rfl;rfl;rfl;(intro _ h;cases h);rfl;rfl;rfl;decide;decide;(first|omega|(simp only[List.length_take,List.length_drop,List.length_append,List.length_singleton,List.length_cons,List.length_nil]<;>omega)))|(apply Aa.DV;rfl;rfl;rfl;rfl;omega)|refine go2 ?_|(apply Aa.int;rfl;rfl;rfl)|(apply Aa.buildSlice;rfl;rfl;rfl;decide;rfl;rfl;rfl)|(apply Ad.Ac;rfl)|(intro _;try(exfalso;omega)))
   all_goals try(exfalso;omega)
   refine Ai.normal ⟨by first|omega|decide,?_,?_⟩
   ·try(first|rw[B,s]|rw[B])
    exact Du
   ·first|rw[B,s]|rw[B]
    exact Ec
  ·repeat' (first|(refine Aj.Il 6 ?_;refine Aj.ghost (Aq.freeze 72 rfl rfl) ?_)|apply Ad.Bo|apply Ad.FT|apply BL.normal|apply Bl.exit|apply Ai.exit|apply Ad.ret|apply Aj.nil|apply Aj.one|(apply Aa.assign;rfl)|(apply Aa.move;rfl)|(apply Aa.int;rfl;rfl;rfl)|(apply Ad.Ac;rfl)|(intro _;try(exfalso;omega)))
   all_goals first|(exfalso;omega)|(refine Done.rt rfl rfl ⟨?_,rfl,rfl⟩;try rfl)
instance:Enc oW:={ default:=⟨0,0,[]⟩,enc:=fun x=>[.int .i64 x.s,.int .i64 x.e,.lst 3 (cells x.notes) x.notes.length],size:=3,len:=fun _=>rfl }
def UJ(p:Fe):Nat→List Int
 |0=>[Nr p,NG p]
 |k+1=>UJ p k++[(gi p.notes k).s,(gi p.notes k).e]
theorem Zw(p:Fe):∀k,(UJ p k).length=2*k+2
 |0=>rfl
 |k+1=>by
  have:=Zw p k;unfold UJ;grind
def DC(p:Fe):List Int:=Lib.compact ((UJ p p.notes.length).mergeSort fun x y=>decide (x≤y))
theorem Yw(zs:List Int):(Lib.compact zs).length≤zs.length:=by
 unfold Lib.compact Lib.compactUpTo;grind
theorem a2w(p:Fe):0<(DC p).length:=by
 have b:Nr p∈DC p:=by
  unfold DC;rw[Q7,fY];have:∀k,Nr p∈UJ p k:=by
   intro k
   induction k with
   |zero=>simp[UJ]
   |succ k a=>exact cD _ a
  grind
 grind
theorem c6i:∀(m:Mem) (F:Nat→Prop) (us:List Value),Dt m F [] us→us=[]:=fun m F us h=>by cases h;rfl
def Bq(p:Fe):List oW:=b0k (snd p) (DC p)
theorem X3{o:FQ}{p:Fe}(J:Tm o)(P:Ui o p=0)(h:pV o p):Ak env 16 [.agg (Enc.enc o),.agg (Enc.enc p)] (.D5 [.p (.lst 81 (cells (Bq p)) (Bq p).length),.p (.int .i64 0)]):=by
 have A:=Ns o p J h.sm;rw[P] at A;have n:=V9 p (by have:=h.bars;omega) h.sm.bars;have S:=h.notes;have j:=Yq p h.sm;refine Ak.enter (Af (by decide)) Tryz.func16 rfl (by kernel_rfl) (by simp[Tryz.ntmps16]) ?_
 repeat' (first|(apply Aa.fn;rfl;rfl;exact A;intro _;rfl)|(apply Aa.fn;rfl;rfl;exact n;intro _;rfl)|refine go2 ?_|(apply Aa.int;rfl;rfl;rfl)|(apply Aa.buildSlice;rfl;rfl;rfl;decide;rfl;rfl;rfl)|(apply Ad.Ah;rfl))
 all_goals try(exfalso;omega)
 all_goals try contradiction
 apply Ad.GU (p.notes.length) [(3,_),(30,_),(31,_)] [(1,_)] (fun k r=>(32,.p (.int .i64 (k:Int)))::(9,.vec 2 (UJ p k).length 0 (UJ p k).length)::r) (fun k r=>(2,.vec 3 (cells (UJ p k)) (UJ p k).length false)::r) 3
 ·first|omega|decide
 ·first|omega|decide
 ·exact Qb
 ·exact Tt
 ·intro k z
  have M:=Zw p k;have d:UJ p (k+1)=UJ p k++[(gi p.notes k).s,(gi p.notes k).e]:=rfl;have c:(UJ p (k+1)).length=(UJ p k).length+2:=by rw[d];simp
  repeat' (first|(apply Aa.b5q (l:=UJ p k) (gi p.notes k).s (gi p.notes k).e;rfl;rfl;rfl;rfl;rfl;rfl;rfl;rfl;(intro _ h;cases h);rfl;rfl;rfl;decide;decide;omega)|(apply Aa.Ap;rfl;rfl;rfl;omega;rfl)|refine go2 ?_|(apply Aa.int;rfl;rfl;rfl)|(apply Aa.buildSlice;rfl;rfl;rfl;decide;rfl;rfl;rfl)|(apply Ad.Ac;rfl)|(intro _;try(exfalso;omega)))
  all_goals try(exfalso;omega)
  refine Ai.normal ⟨by first|omega|decide,?_,?_⟩
  ·try(first|rw[c,d]|rw[c])
   exact Du
  ·first|rw[c,d]|rw[c]
   exact Ec
 ·have M:=Zw p p.notes.length
  obtain⟨zs,C⟩:∃zs,zs=UJ p p.notes.length:=⟨_,rfl⟩
  have q:=Yw ((UJ p p.notes.length).mergeSort fun x y=>decide (x≤y));have f:((UJ p p.notes.length).mergeSort fun x y=>decide (x≤y)).length=(UJ p p.notes.length).length:=gS _;have G:=a2w p;have g:((DC p).length:Int)-1=(((DC p).length-1:Nat):Int):=by omega
  rw[show Lib.compact ((UJ p p.notes.length).mergeSort fun x y=>decide (x≤y))=DC p from rfl] at q
  repeat' (first|(refine Ad.at 14 ?_;refine Ad.ghost (Aq.freeze 9 rfl rfl) ?_;first|apply Ad.Bo|apply Ad.Ce)|((refine Aa.c6f (Fn:=kX) (zs':=(UJ p p.notes.length).mergeSort fun x y=>decide (x≤y)) b6g rfl rfl rfl (rest:=[]) (rv:=[]) c6i rfl rfl (by omega) ?_ (by omega) ?_;(simp only[kX];rw[if_pos (by omega)])))|((refine Aa.c4j (Fn:=jF) (zs:=(UJ p p.notes.length).mergeSort fun x y=>decide (x≤y)) (zs':=DC p++List.replicate ((UJ p p.notes.length).length-(DC p).length) 0) (k:=(DC p).length) b5t rfl rfl rfl (rest:=[]) (rv:=[]) c6i rfl f (by omega) ?_ (by simp;omega) (by omega) ?_;(simp only[jF];rw[if_pos (by omega),f];rfl);rw[List.take_left]))|(apply Aa.sliceTo (b:=(DC p).length-1);rfl;exact congrArg (fun b=>some (PV.p (.int .i64 b))) g;rfl;rfl;rfl;rfl;omega)|refine VU ?_|apply Ad.Bo|(apply Aa.int;rfl;rfl;rfl)|(apply Ad.Ac;rfl)|(intro _;try(exfalso;omega)))
  all_goals try(exfalso;omega)
  refine Ad.ghost (Aq.adopt 12 81 rfl) ?_;obtain⟨F,B⟩:∃F:Nat→oW,F=fun i=>⟨gi (DC p) i,gi (DC p) (i+1),snd p (gi (DC p) i)⟩:=⟨_,rfl⟩
  have O:Bq p=Bc F ((DC p).length-1):=by rw[B];rfl
  rw[O];apply Ad.GU ((DC p).length-1) [(3,_),(9,_),(52,_),(53,_)] [(1,_)] (fun k r=>(54,.p (.int .i64 (k:Int)))::(12,.vec 4 (Bc F k).length 0 (Bc F k).length)::r) (fun k r=>(4,.vec 81 (cells (Bc F k)) (Bc F k).length true)::r) 5
  ·first|omega|decide
  ·first|omega|decide
  ·exact Qb
  ·exact Tt
  ·intro k z
   have K:=Cc F k;have u:F k=⟨gi (DC p) k,gi (DC p) (k+1),snd p (gi (DC p) k)⟩:=by rw[B]
   have d:Bc F (k+1)=Bc F k++[⟨gi (DC p) k,gi (DC p) (k+1),snd p (gi (DC p) k)⟩]:=by rw[← u];rfl
   have c:(Bc F (k+1)).length=(Bc F k).length+1:=by rw[d];simp
   have N:gi ((DC p).take ((DC p).length-1)) k=gi (DC p) k:=Zg z;have m:(k:Int)+1=((k+1:Nat):Int):=by omega
   have I:=j (gi (DC p) k)
   repeat' (first|(refine Ag.atIdx 10 ?_;refine Ag.ghost (Aq.freeze 68 rfl rfl) ?_)|(refine Ag.atIdx 9 ?_;apply Ag.c4t [.tmp 64];decide +kernel;decide +kernel;rfl)|apply Ad.Bo|apply Ad.region|apply Ad.E5|apply Ad.FH|apply Ad.EG|apply BL.normal|apply Bl.normal|apply Aj.nil|apply Ag.nil|apply Aj.one|(apply Ag.bar;decide +kernel)|apply Ag.quiet|(apply Aa.fv;rfl;rfl;exact I)|(apply Aa.Ap (l:=(DC p).take ((DC p).length-1)) (i:=k);rfl;rfl;rfl;(rw[ar];omega);(rw[ar];omega))|(apply Aa.load (r:=.p (.int .i64 (gi (DC p) k)));rfl;exact(congrArg (fun b=>some (PV.p (FV.int .i64 b))) N))|(apply Aa.Ap (l:=DC p) (i:=k+1);rfl;exact congrArg (fun b=>some (PV.p (.int .i64 b))) m;rfl;omega;rfl)|(apply Aa.Dn (a:=(⟨gi (DC p) k,gi (DC p) (k+1),snd p (gi (DC p) k)⟩:oW));rfl;rfl;rfl;rfl;rfl;rfl;rfl;rfl;(intro _ h;cases h);rfl;rfl;rfl;decide;decide;(first|omega|(simp only[List.length_take,List.length_drop,List.length_append,List.length_singleton,List.length_cons,List.length_nil]<;>omega)))|(apply Aa.assign;rfl)|(apply Aa.move;rfl)|(apply Aa.MH;rfl;rfl;omega)|(apply Aa.int;rfl;rfl;rfl)|(apply Aa.load;rfl;rfl)|(apply Aa.build;rfl;rfl;rfl;rfl;rfl)|(apply Aa.buildSlice;rfl;rfl;rfl;decide;rfl;rfl;rfl)|(apply Ad.Ac;rfl)|(intro _;try(exfalso;omega)))
   all_goals try(exfalso;omega)
   refine Ai.normal ⟨by first|omega|decide,?_,?_⟩
   ·try(first|rw[c,d]|rw[c])
    exact Du
   ·first|rw[c,d]|rw[c]
    exact Ec
  ·repeat' (first|(refine Aj.Il 4 ?_;refine Aj.ghost (Aq.freeze 73 rfl rfl) ?_)|apply Ad.Bo|apply Ad.FT|apply BL.normal|apply Bl.exit|apply Ai.exit|apply Ad.ret|apply Aj.nil|apply Aj.one|(apply Aa.assign;rfl)|(apply Aa.move;rfl)|(apply Aa.int;rfl;rfl;rfl)|(apply Ad.Ac;rfl)|(intro _;try(exfalso;omega)))
   all_goals first|(exfalso;omega)|(refine Done.rt rfl rfl ⟨?_,rfl,rfl⟩;try rfl)
end Go.Proofs.YtnjkoebfgcbbdaaGreatDoor
namespace Go.Pop
def Ro:List Nat→Nat
 |[]=>0
 |r::l=>256*Ro l+r
def msk(s:Nat):Nat→Nat
 |0=>0
 |n+1=>256*msk s n+s
theorem and_split{q r M s:Nat}(d:r<256)(c:s<256):(256*q+r) &&& (256*M+s)=256*(q &&& M)+(r &&& s):=by
 have b:((256*q+r) &&& (256*M+s)) / 2^8=(256*q+r) / 2^8 &&& (256*M+s) / 2^8:=Nat.and_div_two_pow;have a:((256*q+r) &&& (256*M+s))%2^8=((256*q+r)%2^8) &&& ((256*M+s)%2^8):=Nat.and_mod_two_pow;rw[show(256*q+r) / 256=q by omega,show(256*M+s) / 256=M by omega] at b;rw[show(256*q+r)%256=r by omega,show(256*M+s)%256=s by omega] at a;omega
def b1(r:Nat):Nat:=(r / 2 &&& 85)+(r &&& 85)
def b2(r:Nat):Nat:=(r / 4 &&& 51)+(r &&& 51)
def b3(r:Nat):Nat:=(r / 16+r) &&& 15
theorem f1:∀b,b<2→∀r,r<256→(128*b+r / 2) &&& 85=r / 2 &&& 85:=by decide +kernel
theorem f2:∀b,b<4→∀r,r<256→(64*b+r / 4) &&& 51=r / 4 &&& 51:=by decide +kernel
theorem s1{q r M:Nat}(a:r<256):((256*q+r) / 2 &&& (256*M+85))+((256*q+r) &&& (256*M+85))=256*((q / 2 &&& M)+(q &&& M))+b1 r:=by
 rw[show(256*q+r) / 2=256*(q / 2)+(128*(q%2)+r / 2) by omega,and_split (by omega) (by decide),and_split a (by decide),f1 _ (by omega) _ a];unfold b1;omega
theorem s2{q r M:Nat}(a:r<256):((256*q+r) / 4 &&& (256*M+51))+((256*q+r) &&& (256*M+51))=256*((q / 4 &&& M)+(q &&& M))+b2 r:=by
 rw[show(256*q+r) / 4=256*(q / 4)+(64*(q%4)+r / 4) by omega,and_split (by omega) (by decide),and_split a (by decide),f2 _ (by omega) _ a];unfold b2;omega
theorem b8l(x:Nat):x &&& 15=x%16:=by
 have:=fI x 4;omega
theorem s3{q r M:Nat}(a:r%16≤4∧r / 16≤4)(b:q%16≤4):((256*q+r) / 16+(256*q+r)) &&& (256*M+15)=256*((q / 16+q) &&& M)+b3 r:=by
 rw[show(256*q+r) / 16+(256*q+r)=256*(q / 16+q)+(16*(q%16)+r / 16+r) by omega,and_split (by omega) (by decide)];unfold b3;rw[b8l,b8l];omega
theorem m1:∀l:List Nat,(∀r∈l,r<256)→(Ro l / 2 &&& msk 85 l.length)+(Ro l &&& msk 85 l.length)=Ro (l.map b1)
 |[],_=>rfl
 |r::l,h=>by
  show((256*Ro l+r) / 2 &&& (256*msk 85 l.length+85))+((256*Ro l+r) &&& (256*msk 85 l.length+85))=256*Ro (l.map b1)+b1 r;rw[s1 (h r (by simp)),m1 l fun x a=>h x (by grind)]
theorem m2:∀l:List Nat,(∀r∈l,r<256)→(Ro l / 4 &&& msk 51 l.length)+(Ro l &&& msk 51 l.length)=Ro (l.map b2)
 |[],_=>rfl
 |r::l,h=>by
  show((256*Ro l+r) / 4 &&& (256*msk 51 l.length+51))+((256*Ro l+r) &&& (256*msk 51 l.length+51))=256*Ro (l.map b2)+b2 r;rw[s2 (h r (by simp)),m2 l fun x a=>h x (by grind)]
theorem b6k:∀l:List Nat,(∀r∈l,r%16≤4∧r / 16≤4)→Ro l%16≤4
 |[],_=>by decide
 |r::l,h=>by
  have:=(h r (by simp)).1;show(256*Ro l+r)%16≤4;omega
theorem m3:∀l:List Nat,(∀r∈l,r%16≤4∧r / 16≤4)→(Ro l / 16+Ro l) &&& msk 15 l.length=Ro (l.map b3)
 |[],_=>rfl
 |r::l,h=>by
  have a:=fun x b=>h x (ao r b)
  show((256*Ro l+r) / 16+(256*Ro l+r)) &&& (256*msk 15 l.length+15)=256*Ro (l.map b3)+b3 r;rw[s3 (h r (by simp)) (b6k l a),m3 l a]
def YU(p:Nat):Nat:=p%2+p / 2%2+p / 4%2+p / 8%2+p / 16%2+p / 32%2+p / 64%2+p / 128%2
theorem k1:∀r,r<256→b1 r<256∧(b2 (b1 r)%16≤4∧b2 (b1 r) / 16≤4)∧b3 (b2 (b1 r))=YU r∧YU r≤8:=by decide +kernel
def swA(x:Nat):Nat:=(x / 2 &&& 6148914691236517205)+(x &&& 6148914691236517205)
def swB(x:Nat):Nat:=(x / 4 &&& 3689348814741910323)+(x &&& 3689348814741910323)
def swC(x:Nat):Nat:=(x / 16+x) &&& 1085102592571150095
def swD(x:Nat):Nat:=x+x / 256
def swE(x:Nat):Nat:=x+x / 65536
def swF(x:Nat):Nat:=x+x / 4294967296
def sw(x:Nat):Nat:=swF (swE (swD (swC (swB (swA x))))) &&& 127
def bytesOf(x:Nat):List Nat:=[x%256,x / 256%256,x / 65536%256,x / 16777216%256,x / 4294967296%256,x / 1099511627776%256,x / 281474976710656%256,x / 72057594037927936%256]
theorem a3x{x:Nat}(h:x<18446744073709551616):Ro (bytesOf x)=x:=by
 simp only[bytesOf,Ro];omega
theorem vG(x:Nat):∀r∈bytesOf x,r<256:=by
 intro r a;simp only[bytesOf,List.mem_cons,List.not_mem_nil,or_false] at a;omega
theorem c2g(x:Nat):x &&& 127=x%128:=by
 have:=fI x 7;omega
theorem Sz{f:Nat→Nat}{P:Nat→Prop}{l:List Nat}(h:∀r∈l,P (f r)):∀r∈l.map f,P r :=by grind
theorem k85:msk 85 8=6148914691236517205 :=by decide
theorem k51:msk 51 8=3689348814741910323 :=by decide
theorem k15:msk 15 8=1085102592571150095 :=by decide
theorem WE(x:Nat):(bytesOf x).length=8:=rfl
theorem abc{x:Nat}(h:x<18446744073709551616):swC (swB (swA x))=Ro ((bytesOf x).map YU)∧swA x=Ro ((bytesOf x).map b1)∧swB (swA x)=Ro (((bytesOf x).map b1).map b2):=by
 have b:=vG x;have d:swA x=Ro ((bytesOf x).map b1):=by
  have:=m1 (bytesOf x) b;rw[a3x h,WE,k85] at this;assumption
 have c:swB (swA x)=Ro (((bytesOf x).map b1).map b2):=by
  rw[d];have:=m2 ((bytesOf x).map b1) (Sz fun r a=>(k1 r (b r a)).1);rw[aM,WE,k51] at this;assumption
 refine⟨?_,d,c⟩;rw[c];have e:=m3 (((bytesOf x).map b1).map b2) (Sz (Sz (P:=fun y=>b2 y%16≤4∧b2 y / 16≤4) fun r a=>(k1 r (b r a)).2.1));have f:(((bytesOf x).map b1).map b2).map b3=(bytesOf x).map YU:=by
  exact fR fun r a=>(k1 r (b r a)).2.2.1
 rw[f,aM,aM,WE,k15] at e;assumption
theorem rP{x:Nat}(h:x<18446744073709551616):sw x=(YU (x%256)+YU (x / 256%256)+YU (x / 65536%256)+YU (x / 16777216%256)+YU (x / 4294967296%256)+YU (x / 1099511627776%256)+YU (x / 281474976710656%256)+YU (x / 72057594037927936%256)) ∧
 swC (swB (swA x))<1157442765409226760∧swA x<18446744073709551616∧swB (swA x)≤4919131752989213764:=by
 obtain⟨e,k,j⟩:=abc h;have b:=fun r (a:r<256)=>(k1 r a).2.2.2
 have O:=b (x%256) (by omega);have N:=b (x / 256%256) (by omega);have M:=b (x / 65536%256) (by omega);have K:=b (x / 16777216%256) (by omega);have J:=b (x / 4294967296%256) (by omega);have I:=b (x / 1099511627776%256) (by omega);have G:=b (x / 281474976710656%256) (by omega);have F:=b (x / 72057594037927936%256) (by omega);have d:∀l:List Nat,l.length=8→(∀r∈l,r<256)→Ro l<18446744073709551616:=by
  intro l f a
  match l,f with
  |[y0,y1,y2,y3,y4,y5,y6,y7],_ =>
   have C:=a y0 (by simp);have B:=a y1 (by simp);have A:=a y2 (by simp);have z:=a y3 (by simp);have u:=a y4 (by simp);have s:=a y5 (by simp);have q:=a y6 (by simp);have p:=a y7 (by simp);simp only[Ro];omega
 have c:∀l:List Nat,l.length=8→(∀r∈l,r≤68)→Ro l≤4919131752989213764:=by
  intro l f a
  match l,f with
  |[y0,y1,y2,y3,y4,y5,y6,y7],_ =>
   have C:=a y0 (by simp);have B:=a y1 (by simp);have A:=a y2 (by simp);have z:=a y3 (by simp);have u:=a y4 (by simp);have s:=a y5 (by simp);have q:=a y6 (by simp);have p:=a y7 (by simp);simp only[Ro];omega
 have g:=vG x;refine⟨?_,?_,by rw[k];exact d _ rfl (Sz fun r a=>(k1 r (g r a)).1),by rw[j];exact c _ rfl (Sz (Sz (P:=fun y=>b2 y≤68) fun r a=>by have:=(k1 r (g r a)).2.1;omega))⟩
 ·unfold sw
  rw[e,c2g];simp only[bytesOf,List.map_cons,List.map_nil,Ro,swD,swE,swF];generalize YU (x%256)=y0 at *;generalize YU (x / 256%256)=y1 at *;generalize YU (x / 65536%256)=y2 at *;generalize YU (x / 16777216%256)=y3 at *;generalize YU (x / 4294967296%256)=y4 at *;generalize YU (x / 1099511627776%256)=y5 at *;generalize YU (x / 281474976710656%256)=y6 at *;generalize YU (x / 72057594037927936%256)=y7 at *;clear e k j b g d c h;have o:(256*(256*(256*(256*(256*(256*(256*(256*0+y7)+y6)+y5)+y4)+y3)+y2)+y1)+y0) / 256=256*(256*(256*(256*(256*(256*y7+y6)+y5)+y4)+y3)+y2)+y1:=by omega
  rw[o];clear o;have n:(256*(256*(256*(256*(256*(256*(256*(256*0+y7)+y6)+y5)+y4)+y3)+y2)+y1)+y0+(256*(256*(256*(256*(256*(256*y7+y6)+y5)+y4)+y3)+y2)+y1)) / 65536=256*(256*(256*(256*(256*y7+(y6+y7))+(y5+y6))+(y4+y5))+(y3+y4))+(y2+y3):=by omega
  rw[n];clear n;have m:(256*(256*(256*(256*(256*(256*(256*(256*0+y7)+y6)+y5)+y4)+y3)+y2)+y1)+y0+(256*(256*(256*(256*(256*(256*y7+y6)+y5)+y4)+y3)+y2)+y1)+(256*(256*(256*(256*(256*y7+(y6+y7))+(y5+y6))+(y4+y5))+(y3+y4))+(y2+y3))) / 4294967296=256*(256*(256*y7+(y6+y7))+(y5+y6+y7))+(y4+y5+y6+y7):=by omega
  rw[m];clear m;omega
 ·rw[e]
  simp only[bytesOf,List.map_cons,List.map_nil,Ro];omega
def cnt(n p:Nat):Nat:=((List.range n).filter p.testBit).length
theorem Kq(n p:Nat):cnt (n+1) p=p%2+cnt n (p / 2):=by
 unfold cnt;rw[gL,dx];have e:((List.map Nat.succ (List.range n)).filter p.testBit).length=((List.range n).filter (p / 2).testBit).length:=by
  rw[List.filter_map,aM];congr 1
  refine gg fun i _=>?_
  grind
 grind
theorem Ym(n p:Nat):cnt (n+8) p=YU p+cnt n (p / 256):=by
 rw[show n+8=n+7+1 from rfl,Kq,show n+7=n+6+1 from rfl,Kq,show n+6=n+5+1 from rfl,Kq,show n+5=n+4+1 from rfl,Kq,show n+4=n+3+1 from rfl,Kq,show n+3=n+2+1 from rfl,Kq,show n+2=n+1+1 from rfl,Kq,Kq];unfold YU;simp only[Nat.div_div_eq_div_mul,Nat.reduceMul];omega
theorem b4h(p:Nat):YU (p%256)=YU p:=by unfold YU;omega
theorem c0i{x:Nat}(h:x<18446744073709551616):sw x=cnt 64 x:=by
 rw[(rP h).1];simp only[b4h];rw[show(64:Nat)=56+8 from rfl,Ym,show(56:Nat)=48+8 from rfl,Ym,show(48:Nat)=40+8 from rfl,Ym,show(40:Nat)=32+8 from rfl,Ym,show(32:Nat)=24+8 from rfl,Ym,show(24:Nat)=16+8 from rfl,Ym,show(16:Nat)=8+8 from rfl,Ym,show(8:Nat)=0+8 from rfl,Ym];simp only[Nat.div_div_eq_div_mul,Nat.reduceMul];show _=_+(_+(_+(_+(_+(_+(_+(_+0)))))));omega
end Go.Pop
namespace Go.Proofs.YtnjkoebfgcbbdaaGreatDoor
theorem b7o{x:Nat}(h:x<18446744073709551616):Go.Pop.sw x=(GN x).length:=Go.Pop.c0i h
end Go.Proofs.YtnjkoebfgcbbdaaGreatDoor
namespace Go.Vm
open Go.Am
section
variable {E:Env}{L:Frame}{H:Heap}{nx:Nat}{Q:PV→Heap→Nat→Prop}{w:Bool}
variable {dst:Option Tmp}{ty:TypeId}{pos:String}{af:Array Edge}{gd:Option (Nat×Bool)}
variable {bn:Nat}{ops:Array Oper}{op:Op}{l:List Oper}{i:Nat}{R:Frame→Heap→Nat→Prop}
def d0i(E:Env)(bn d:Nat)(ops:Array Oper)(i:Nat)(l:List Oper)(L:Frame)(H:Heap)(nx:Nat)(Q:Frame→Heap→Nat→Prop):Prop :=
 ∀(B:Base),B.nx=bn→∀m F σ t,Ctx E.Γ m F σ H nx→RL m F (htag H) σ nx L t→Cm t d=.slice emptyAt 0 0→B.to m F σ H nx →
  Jd E.P E.O E.G ops i l ⟨t,m⟩ fun s'=>∃L' H' nx' F' σ',Q L' H' nx'∧Ctx E.Γ s'.m F' σ' H' nx'∧RL s'.m F' (htag H') σ' nx' L' s'.t∧B.to s'.m F' σ' H' nx'
end
variable {E:Env}{L:Frame}{H:Heap}{nx:Nat}
section
variable {Q:PV→Heap→Nat→Prop}{w:Bool}{dst:Option Tmp}{ty:TypeId}{pos:String}{af:Array Edge}{gd:Option (Nat×Bool)}
end
end Go.Vm
namespace Go.Proofs.YtnjkoebfgcbbdaaGreatDoor
open Go Go.Am Go.Vm Go.Pie
attribute [local irreducible] Aa Aj Ag Ad AL Ak Bd BL Bl Ai Vm.Done BD AO
attribute [local irreducible] CJ Bf Eb DW EF A8 Cj
structure Na where
 hn:Int
 hs:Int
 fn:Int
 fs:Int
instance:Enc Na:={ default:=⟨0,0,0,0⟩,enc:=fun x=>[.int .i64 x.hn,.int .i64 x.hs,.int .i64 x.fn,.int .i64 x.fs],size:=4,len:=fun _=>rfl }
structure Na.Ok(y:Na):Prop where
 hn:0≤y.hn∧y.hn≤10
 fn:0≤y.fn∧y.fn≤10
 hs:0≤y.hs∧y.hs≤127
 fs:0≤y.fs∧y.fs≤127
noncomputable instance (y:Na):Decidable y.Ok:=Classical.propDecidable _
def CW(s:FP):List Int:=ED s.lo s.hi
theorem NP{p n:Nat}:n∈GN p↔n<64∧p.testBit n=true:=by
 unfold GN;simp
theorem QT{s:FP}{x:Int}:x∈CW s↔∃n:Nat,n<128∧x=(n:Int)∧s.has n=true:=by
 unfold CW ED;rw[bq,ba,ba];constructor
 ·rintro(⟨n,h,rfl⟩|⟨n,h,rfl⟩)
  ·obtain⟨b,a⟩:=NP.1 h
   exact⟨n,by omega,rfl,by unfold FP.has;grind⟩
  ·obtain⟨b,a⟩:=NP.1 h
   refine⟨64+n,by omega,rfl,?_⟩;unfold FP.has;grind
 ·rintro⟨n,b,rfl,a⟩
  unfold FP.has at a;split at a
  ·rename_i h;exact .inl ⟨n,NP.2 ⟨h,a⟩,rfl⟩
  ·rename_i h
   exact .inr ⟨n-64,NP.2 ⟨by omega,a⟩,by omega⟩
theorem jc(p:Nat):(GN p).Pairwise (·<·):=List.Pairwise.filter _ List.pairwise_lt_range
theorem NY(s:FP):Inc (CW s):=by
 refine hX.2 ⟨?_,?_,?_⟩
 ·exact eZ _ (fun a b h=>by omega) (jc _)
 ·exact eZ _ (fun a b h=>by omega) (jc _)
 ·intro a d b c
  obtain⟨n,e,rfl⟩:=ba.1 d;obtain⟨k,f,rfl⟩:=ba.1 c;have:=(NP.1 e).1;omega
theorem rV(s:FP):(CW s).length=(GN s.lo).length+(GN s.hi).length:=by simp[CW,ED]
theorem Rn(s:FP):(CW s).length≤128:=by
 rw[rV];have:=Lm s.lo;have:=Lm s.hi;omega
theorem NI{l:List Int}(h:Inc l):l.Nodup:=h.imp fun h=>by omega
theorem J3:∀{l r:List Int},l.Nodup→(∀x∈l,x∈r)→l.length≤r.length
 |[],_,_,_=>an _
 |a::l,r,hn,h=>by
  obtain⟨c,b⟩:=df.1 hn;have e:=J3 (r:=r.erase a) b fun x d=>by
   grind
  grind
theorem OM{l:List Int}(h:∀i,i<l.length→0≤gi l i∧gi l i≤127){x:Int}:x∈CW (Y1 l l.length)↔x∈l:=by
 rw[QT];constructor
 ·rintro⟨n,d,rfl,c⟩
  rw[o7 h n d _ (ab _),cn] at c;grind
 ·intro a
  obtain⟨i,b,e⟩:=bR.1 a;have f:gi l i=x:=by unfold gi;grind
  have:=h i b;refine⟨x.toNat,by omega,by omega,?_⟩;rw[o7 h _ (by omega) _ (ab _),cn];grind
theorem oq{l:List Int}(h:∀i,i<l.length→0≤gi l i∧gi l i≤127)(b:l.Nodup):(CW (Y1 l l.length)).length=l.length :=
 Nat.le_antisymm (J3 (NI (NY _)) fun _ a=>(OM h).1 a) (J3 b fun _ a=>(OM h).2 a)
def wid(l:List Int):Int:=if l.length=0 then 0 else gi l (l.length-1)-gi l 0
theorem inc_le{l:List Int}(h:Inc l){i j:Nat}(b:i≤j)(a:j<l.length):gi l i≤gi l j:=by
 rcases aq i j with h1|h1
 ·have:=ep.1 h i j (by omega) a h1
  unfold gi;grind
 grind
theorem aF{l:List Int}(h:Inc l){s:Int}(hs:0≤s):wid l≤s↔∀x∈l,∀y∈l,x-y≤s:=by
 unfold wid;split
 ·grind
 ·rename_i h0
  constructor
  ·intro hw x hx y hy
   obtain⟨i,hi,rfl⟩:=bR.1 hx;obtain⟨j,hj,rfl⟩:=bR.1 hy;have h1:=inc_le h (show i≤l.length-1 by omega) (by omega);have h2:=inc_le h (an j) hj;have e1:gi l i=l[i]:=by unfold gi;grind
   have e2:gi l j=l[j]:=by unfold gi;grind
   omega
  ·intro hw
   exact hw _ (gi_mem' (by omega)) _ (gi_mem' (by omega))
end Go.Proofs.YtnjkoebfgcbbdaaGreatDoor
namespace Go.Vm
open Go.Am
variable {E:Env}{L:Frame}{H:Heap}{nx:Nat}{Q:PV→Heap→Nat→Prop}{dst:Option Tmp}{ty:TypeId}{pos:String}{af:Array Edge}{gd:Option (Nat×Bool)}{w:Bool}
theorem a0y{a b:Nat}(h:a<2^64):a / b<2^64:=cx (Nat.div_le_self _ _) h
theorem Aa.a5f{t c:TypeId}{x y:Operand}{a b:Nat}(r:Nat)(e:AU E.Γ L x=some (.p (.int .u64 (a:Int))))(d:AU E.Γ L y=some (.p (.int .u64 (b:Int))))(f:a+b=r)(h:r<18446744073709551616)(q:Q (.p (.int .u64 (r:Int))) H nx) :
 Aa E w ⟨dst,.binOp .add t x y c,ty,pos,af,gd⟩ L H nx Q:=Aa.b1t e d (by omega) (by grind)
theorem Aa.a8d{t c:TypeId}{x y:Operand}{a b:Nat}(r:Nat)(e:AU E.Γ L x=some (.p (.int .u64 (a:Int))))(d:AU E.Γ L y=some (.p (.int .u64 (b:Int))))(g:a &&& b=r)(h:a<2^64)(f:b<2^64)(q:Q (.p (.int .u64 (r:Int))) H nx) :
 Aa E w ⟨dst,.binOp .and t x y c,ty,pos,af,gd⟩ L H nx Q:=Aa.c5e e d h f (by grind)
end Go.Vm
namespace Go.Proofs.YtnjkoebfgcbbdaaGreatDoor
open Go Go.Am Go.Vm Go.Pie
attribute [local irreducible] Aa Aj Ag Ad AL Ak Bd BL Bl Ai Vm.Done BD AO
theorem kT(x:Nat)(z:x<18446744073709551616):Ak env 112 [.int .u64 (x:Int)] (.p (.int .i64 (((GN x).length:Nat):Int))):=by
 obtain⟨o,N,J⟩:=(Pop.rP z).2;have I:=b7o z;obtain⟨A,e⟩:∃A,A=Pop.swA x:=⟨_,rfl⟩
 obtain⟨B,d⟩:∃B,B=Pop.swB A:=⟨_,rfl⟩
 obtain⟨C,c⟩:∃C,C=Pop.swC B:=⟨_,rfl⟩
 obtain⟨D,n⟩:∃D,D=Pop.swD C:=⟨_,rfl⟩
 obtain⟨F,m⟩:∃F,F=Pop.swE D:=⟨_,rfl⟩
 obtain⟨G,k⟩:∃G,G=Pop.swF F:=⟨_,rfl⟩
 rw[← e] at o N J;rw[← d] at o J;rw[← c] at o;have m1:∀a b:Nat,b<18446744073709551616→a &&& b<18446744073709551616:=fun a b h=>cx Nat.and_le_right h
 obtain⟨j,y⟩:∃j,x / 2^1 &&& 6148914691236517205=j:=⟨_,rfl⟩
 obtain⟨g,u⟩:∃g,x &&& 6148914691236517205=g:=⟨_,rfl⟩
 obtain⟨b1,s⟩:∃b1,A / 2^2 &&& 3689348814741910323=b1:=⟨_,rfl⟩
 obtain⟨b2,r⟩:∃b2,A &&& 3689348814741910323=b2:=⟨_,rfl⟩
 obtain⟨f,q⟩:∃f,B / 2^4+B=f:=⟨_,rfl⟩
 have W:j+g=A:=by rw[← y,← u];exact e.symm
 have V:b1+b2=B:=by rw[← s,← r];exact d.symm
 have U:f &&& 1085102592571150095=C:=by rw[← q];exact c.symm
 have T:C+C / 2^8=D:=n.symm;have S:D+D / 2^16=F:=m.symm;have P:F+F / 2^32=G:=k.symm;have K:G &&& 127=(GN x).length:=by rw[← I];unfold Pop.sw;rw[← e,← d,← c,← n,← m,← k]
 clear e d c n m k I;obtain⟨Z,M⟩:∃Z,Z=(GN x).length:=⟨_,rfl⟩
 rw[← M] at K ⊢;have O:PV.p (.int .i64 ((G &&& 127:Nat):Int))=PV.p (.int .i64 (Z:Int)):=by rw[K]
 refine Ak.enter (Af (by decide)) Tryz.func112 rfl (by kernel_rfl) (by simp[Tryz.ntmps112]) ?_
 repeat' (first|(apply Aa.a8d j;rfl;rfl;exact y;exact a0y (by omega);exact Ba rfl)|(apply Aa.a8d g;rfl;rfl;exact u;omega;exact Ba rfl)|(apply Aa.a8d b1;rfl;rfl;exact s;exact a0y (by omega);exact Ba rfl)|(apply Aa.a8d b2;rfl;rfl;exact r;omega;exact Ba rfl)|(apply Aa.c4h;rfl;rfl;exact⟨by omega,Ba rfl⟩)|(apply Aa.a5f f;rfl;rfl;exact q;omega)|(apply Aa.a5f A;rfl;rfl;exact W;omega)|(apply Aa.a5f B;rfl;rfl;exact V;omega)|(apply Aa.a5f D;rfl;rfl;exact T;omega)|(apply Aa.a5f F;rfl;rfl;exact S;omega)|(apply Aa.a5f G;rfl;rfl;exact P;omega)|(apply Aa.a8d C;rfl;rfl;exact U;omega;exact Ba rfl)|refine go2 ?_|(apply Aa.Io;rfl;rfl;rfl;rfl;omega)|(apply Aa.oU;rfl;rfl;(simp only[IntKind.bits];omega)))
 all_goals first|(exfalso;omega)|((refine Done.rt rfl rfl ⟨?_,rfl,rfl⟩;try rfl);exact O;done)|(refine Done.rt rfl rfl ⟨?_,rfl,rfl⟩;try rfl)
theorem fJ(s:FP)(a:s.Ok):Ak env 67 [.agg (Enc.enc s)] (.p (.int .i64 (((CW s).length:Nat):Int))):=by
 have c:=kT s.lo a.lo;have b:=kT s.hi a.hi;have b1:=Lm s.lo;have b2:=Lm s.hi;rw[rV];refine Ak.enter (Af (by decide)) Tryz.func67 rfl (by kernel_rfl) (by simp[Tryz.ntmps67]) ?_
 repeat' (first|(apply Aa.fn;rfl;rfl;exact c;intro _;rfl)|(apply Aa.fn;rfl;rfl;exact b;intro _;rfl)|refine go2 ?_|fail)
 all_goals first|(exfalso;omega)|(refine Done.rt rfl rfl ⟨?_,rfl,rfl⟩;try rfl)
theorem ZH(l:List Int)(hl:l.length≤128)(h:∀x∈l,0≤x∧x≤127):Ak env 106 [.lst 3 (cells l) l.length] (.p (.int .i64 (wid l))):=by
 unfold wid;by_cases h0:l.length=0
 ·rw[if_pos h0]
  refine Ak.enter (Af (by decide)) Tryz.func106 rfl (by kernel_rfl) (by simp[Tryz.ntmps106]) ?_
  repeat' (first|refine go1 ?_|(apply Ad.Ac;rfl)|(intro _;try(exfalso;omega)))
  all_goals first|(exfalso;omega)|(refine Done.rt rfl rfl ⟨?_,rfl,rfl⟩;try rfl)
 ·rw[if_neg h0]
  have h1:=h _ (gi_mem' (show l.length-1<l.length by omega));have h2:=h _ (gi_mem' (show 0<l.length by omega));have hn:(l.length:Int)-1=((l.length-1:Nat):Int):=by omega
  have hz:@gi Int Enc.toInhabited l (nat_lit 0)=gi l 0:=rfl;refine Ak.enter (Af (by decide)) Tryz.func106 rfl (by kernel_rfl) (by simp[Tryz.ntmps106]) ?_
  repeat' (first|(apply Aa.Ap (l:=l) (i:=l.length-1);rfl;exact congrArg (fun b=>some (PV.p (.int .i64 b))) hn;rfl;omega;rfl)|(apply Aa.Ap (l:=l) (i:=0);rfl;rfl;rfl;omega;rfl)|refine Jq ?_|(apply Aa.int;rfl;rfl;rfl)|(apply Ad.Ac;rfl)|(intro _;try(exfalso;omega)))
  all_goals first|(exfalso;omega)|(refine Done.rt rfl rfl ⟨?_,rfl,rfl⟩;try rfl)
def EH(y:Na)(l:List Int):Prop:=(l.length:Int)≤y.hn∧wid l≤y.hs
instance (y:Na) (l:List Int):Decidable (EH y l):=inferInstanceAs (Decidable (_∧_))
theorem ah(y:Na)(l:List Int)(d:l.length≤128)(h:∀x∈l,0≤x∧x≤127):Ak env 60 [.agg (Enc.enc y),.lst 3 (cells l) l.length] (.p (.bool (decide (EH y l)))):=by
 have c:=ZH l d h;by_cases b:(l.length:Int)≤y.hn;all_goals by_cases a:wid l≤y.hs
 all_goals first|rw[decide_eq_true (p:=EH y l) ⟨b,a⟩]|rw[decide_eq_false (p:=EH y l) (fun h=>b h.1)]|rw[decide_eq_false (p:=EH y l) (fun h=>a h.2)]
 all_goals generalize wid l=W at *
 all_goals
  refine Ak.enter (Af (by decide)) Tryz.func60 rfl (by kernel_rfl) (by simp[Tryz.ntmps60]) ?_
 all_goals
  repeat' (first|(apply Aa.fn;rfl;rfl;exact c;intro _;rfl)|refine Jq ?_|(apply Ag.guard;rfl;rfl)|(apply Aa.int;rfl;rfl;rfl)|(intro _;try(exfalso;omega)))
 all_goals first|(exfalso;omega)|(refine Done.rt rfl rfl ⟨?_,rfl,rfl⟩;try rfl)
 all_goals first|exact PV.Iy (decide_eq_true (by omega))|exact PV.Iy (decide_eq_false (by omega))|exact PV.Iy (by simp;omega)
attribute [local irreducible] CJ Bf Eb DW EF A8 Cj
structure Sd8 where
 st:Nat
 lg:Nat
 dv:Nat
 ky:Nat
instance:Enc Sd8:={ default:=⟨0,0,0,0⟩,enc:=fun x=>[.int .u8 (x.st:Int),.int .u8 (x.lg:Int),.int .u8 (x.dv:Int),.int .u8 (x.ky:Int)],size:=4,len:=fun _=>rfl }
structure Mrk where
 bar:Nat
 b:Nat→Nat
instance:Enc Mrk:={ default:=⟨0,fun _=>0⟩,enc:=fun x=>[.int .u8 (x.bar:Int),.int .u8 (x.b 0:Int),.int .u8 (x.b 1:Int),.int .u8 (x.b 2:Int),.int .u8 (x.b 3:Int),.int .u8 (x.b 4:Int)],size:=6,len:=fun _=>rfl }
structure gG where
 org:OPl
 bars:List UInt8
 notes:List Sd8
 sets:List Mrk
def gG.enc(x:gG):List FV:=[.lst 226 (cells x.org.ranks) x.org.ranks.length,.lst 211 (cells x.org.Ae) x.org.Ae.length,.lst 234 (cells x.org.links) x.org.links.length,
 .lst 5 (cells x.bars) x.bars.length,.lst 170 (cells x.notes) x.notes.length,.lst 176 (cells x.sets) x.sets.length]
structure gG.Ok(x:gG):Prop where
 org:x.org.Ok
 nb:x.bars.length<9223372036854775808
 nn:x.notes.length<9223372036854775808
 ns:x.sets.length<9223372036854775808
 notes:∀i,i<x.notes.length→(gi x.notes i).st<256∧(gi x.notes i).lg<256∧(gi x.notes i).dv<256∧(gi x.notes i).ky<256
 sets:∀i,i<x.sets.length→(gi x.sets i).bar<256∧∀j,(gi x.sets i).b j<256
def PX(x:gG):Prop:=dA x.org∧(0<x.bars.length∧x.bars.length≤4)∧x.notes.length≤8∧x.sets.length≤3
noncomputable instance (x:gG):Decidable (PX x):=Classical.propDecidable _
theorem zi(x:gG)(b:x.Ok):Ak env 14 [.agg x.enc] (.p (.bool (decide (PX x)))):=by
 have a:=a6g x.org b.org;have b1:=b.nb;have b2:=b.nn;have b3:=b.ns;by_cases c:dA x.org
 ·rw[decide_eq_true c] at a
  by_cases d:(0<x.bars.length∧x.bars.length≤4)∧x.notes.length≤8∧x.sets.length≤3
  ·rw[decide_eq_true (p:=PX x) ⟨c,d⟩]
   refine Ak.enter (Af (by decide)) Tryz.func14 rfl (by kernel_rfl) (by simp[Tryz.ntmps14]) ?_
   repeat' (first|(apply Aa.fn;rfl;rfl;exact a;intro _;rfl)|refine Jq ?_|(apply Aj.guard;rfl;rfl)|(apply Aa.int;rfl;rfl;rfl)|(intro _;try(exfalso;omega)))
   all_goals first|(exfalso;omega)|contradiction|(refine Done.rt rfl rfl ⟨?_,rfl,rfl⟩;try rfl)
   all_goals exact PV.Iy (by simp;omega)
  ·rw[decide_eq_false (p:=PX x) (fun h=>d h.2)]
   refine Ak.enter (Af (by decide)) Tryz.func14 rfl (by kernel_rfl) (by simp[Tryz.ntmps14]) ?_
   repeat' (first|(apply Aa.fn;rfl;rfl;exact a;intro _;rfl)|refine Jq ?_|(apply Aj.guard;rfl;rfl)|(apply Aa.int;rfl;rfl;rfl)|(intro _;try(exfalso;omega)))
   all_goals first|(exfalso;omega)|contradiction|(refine Done.rt rfl rfl ⟨?_,rfl,rfl⟩;try rfl)
   all_goals exact PV.Iy (by simp;omega)
 ·rw[decide_eq_false c] at a
  rw[decide_eq_false (p:=PX x) (fun h=>c h.1)];refine Ak.enter (Af (by decide)) Tryz.func14 rfl (by kernel_rfl) (by simp[Tryz.ntmps14]) ?_
  repeat' (first|(apply Aa.fn;rfl;rfl;exact a;intro _;rfl)|refine Jq ?_|fail)
  all_goals first|(exfalso;omega)|contradiction|(refine Done.rt rfl rfl ⟨?_,rfl,rfl⟩;try rfl)
def bM(l:List UInt8):Nat→Int
 |0=>0
 |i+1=>bM l i+1+((gi l i).toNat:Int)%6
theorem oC(l:List UInt8):∀i:Nat,(i:Int)≤bM l i∧bM l i≤6*i
 |0=>by simp[bM]
 |i+1=>by
  have:=oC l i;unfold bM;omega
def ntP(o:FQ)(z:Int)(y:Sd8):Me :=
 ⟨(y.st:Int)%z,min z ((y.st:Int)%z+1+(y.lg:Int)%8),(y.dv:Int)%(o.Ae.length:Int),
  (gi o.Ae ((y.dv:Int)%(o.Ae.length:Int)).toNat).lo+(y.ky:Int)%((gi o.Ae ((y.dv:Int)%(o.Ae.length:Int)).toNat).hi-(gi o.Ae ((y.dv:Int)%(o.Ae.length:Int)).toNat).lo+1)⟩
def Ia(o:FQ)(z:Int)(l:List Sd8):Nat→List Me
 |0=>[]
 |k+1=>if(Ia o z l k).any (fun m=>kM m (ntP o z (gi l k)))=true then Ia o z l k else Ia o z l k++[ntP o z (gi l k)]
theorem Qr(o:FQ)(z:Int)(l:List Sd8):∀k,(Ia o z l k).length≤k
 |0=>ab _
 |k+1=>by
  have:=Qr o z l k;unfold Ia;grind
def OB(nb:Nat)(l:List Mrk):Nat→Int
 |0=>-1
 |k+1=>if((gi l k).bar:Int)%(nb:Int)>OB nb l k then((gi l k).bar:Int)%(nb:Int) else OB nb l k
noncomputable def JC(o:FQ)(nb:Nat)(l:List Mrk):Nat→List yA
 |0=>[]
 |k+1=>if((gi l k).bar:Int)%(nb:Int)>OB nb l k then JC o nb l k++[⟨((gi l k).bar:Int)%(nb:Int),QX o (gi l k).b⟩] else JC o nb l k
theorem Vo(o:FQ)(nb:Nat)(l:List Mrk):∀k,(JC o nb l k).length≤k
 |0=>ab _
 |k+1=>by
  have:=Vo o nb l k;unfold JC;grind
noncomputable def c4s(o:FQ)(x:gG):Fe:=⟨Bc (bM x.bars) (x.bars.length+1),Ia o (bM x.bars x.bars.length) x.notes x.notes.length,JC o x.bars.length x.sets x.sets.length⟩
noncomputable def mkP(x:gG):Fe:=c4s (eF x.org) x
theorem a9s(a b:Me):Ak env 73 [.agg (Enc.enc a),.agg (Enc.enc b)] (.p (.bool (kM a b))):=by
 unfold kM;by_cases c:a.d=b.d
 case neg =>
  rw[decide_eq_false c,cU];refine Ak.enter (Af (by decide)) Tryz.func73 rfl (by kernel_rfl) (by simp[Tryz.ntmps73]) ?_
  repeat' (first|refine JD ?_|(apply Aj.guard;rfl;rfl)|(intro _;try(exfalso;omega)))
  all_goals first|(exfalso;omega)|contradiction|(refine Done.rt rfl rfl ⟨?_,rfl,rfl⟩;try rfl)
 by_cases f:a.k=b.k
 case neg =>
  rw[decide_eq_true c,decide_eq_false f,cU,cI];refine Ak.enter (Af (by decide)) Tryz.func73 rfl (by kernel_rfl) (by simp[Tryz.ntmps73]) ?_
  repeat' (first|refine JD ?_|(apply Aj.guard;rfl;rfl)|(intro _;try(exfalso;omega)))
  all_goals first|(exfalso;omega)|contradiction|(refine Done.rt rfl rfl ⟨?_,rfl,rfl⟩;try rfl)
 by_cases g:a.s<b.e
 case neg =>
  rw[decide_eq_true c,decide_eq_true f,decide_eq_false g,cU,cI];refine Ak.enter (Af (by decide)) Tryz.func73 rfl (by kernel_rfl) (by simp[Tryz.ntmps73]) ?_
  repeat' (first|refine JD ?_|(apply Aj.guard;rfl;rfl)|(intro _;try(exfalso;omega)))
  all_goals first|(exfalso;omega)|contradiction|(refine Done.rt rfl rfl ⟨?_,rfl,rfl⟩;try rfl)
 rw[decide_eq_true c,decide_eq_true f,decide_eq_true g,cI,cI,cI];refine Ak.enter (Af (by decide)) Tryz.func73 rfl (by kernel_rfl) (by simp[Tryz.ntmps73]) ?_
 repeat' (first|refine JD ?_|(apply Aj.guard;rfl;rfl)|(intro _;try(exfalso;omega)))
 all_goals first|(exfalso;omega)|contradiction|(refine Done.rt rfl rfl ⟨?_,rfl,rfl⟩;try rfl)
theorem a0h(n m:Me):D7 env 72 ([.p (.agg (Enc.enc m))]++[.ref 0 0]) [(0,a6p n)] 1 (.bool (kM m n)):=by
 have h:=a9s m n;refine D7.enter (Af (by decide)) Tryz.func72 rfl (by kernel_rfl) (by simp) ?_
 repeat' (first|(apply Aa.fn;rfl;rfl;exact h;intro _;rfl)|refine go2 ?_|fail)
 all_goals first|(exfalso;omega)|(refine Done.ret rfl (.refl _) trivial ?_ (by omega) (ab _) ⟨?_,rfl,rfl⟩;exact Ec;try rfl)
theorem qE(x:gG)(j:x.Ok)(U:PX x):Ak env 29 [.agg x.enc] (.D5 [.p (.agg (Enc.enc (eF x.org))),.p (.agg (Enc.enc (mkP x)))]):=by
 obtain⟨f1,f2,f3,f4⟩:=U;have P:=qw x.org j.org f1;have I:=qA x.org j.org f1;have C:=fun i (hi:i<x.sets.length)=>xI (eF x.org) I (gi x.sets i).b (j.sets i hi).2
 have q:=oC x.bars;unfold mkP c4s;generalize eF x.org=o at *;have d1:=I.Ae;have s:(Bc (bM x.bars) (x.bars.length+1)).length=x.bars.length+1:=Cc _ _;refine Ak.enter (Af (by decide)) Tryz.func29 rfl (by kernel_rfl) (by simp[Tryz.ntmps29]) ?_
 repeat' (first|(apply Aa.fn;rfl;rfl;exact P;intro _;rfl)|refine go2 ?_|(apply Aa.build;rfl;rfl;rfl;rfl;rfl)|(apply Aa.buildSlice;rfl;rfl;rfl;decide;rfl;rfl;rfl))
 all_goals try(exfalso;omega)
 apply Ad.GU (x.bars.length) [(1,_),(2,_),(3,_),(4,_),(5,_),(24,_),(25,_)] [(0,_),(1,_),(2,_),(3,_)] (fun k r=>(26,.p (.int .i64 (k:Int)))::r) (fun k r=>(4,.vec 3 (cells (Bc (bM x.bars) (k+1))) (Bc (bM x.bars) (k+1)).length false)::(5,.box 32 [.vec 4 (Bc (bM x.bars) (k+1)).length 0 (Bc (bM x.bars) (k+1)).length,.p (.val (.slice none 0 0)),.p (.val (.slice none 0 0))])::r) 6
 ·first|omega|decide
 ·first|omega|decide
 ·exact Qb
 ·exact Tt
 ·intro k n
  have hl:(Bc (bM x.bars) (k+1)).length=k+1:=Cc _ _;have B:gi (Bc (bM x.bars) (k+1)) k=bM x.bars k:=Dy _ (by omega);have e:=q k;have hu:=(gi x.bars k).toNat_lt;have c:Bc (bM x.bars) (k+1+1)=Bc (bM x.bars) (k+1)++[bM x.bars k+1+((gi x.bars k).toNat:Int)%6]:=rfl;have f:(Bc (bM x.bars) (k+1+1)).length=(Bc (bM x.bars) (k+1)).length+1:=by rw[c];simp
  repeat' (first|(apply Aa.OT;rfl;rfl;(first|omega|(simp only[List.length_set]<;>omega));exact congrArg (fun b=>some (FV.int .i64 b)) (B))|(apply Aa.Dn (a:=(bM x.bars k+1+((gi x.bars k).toNat:Int)%6));rfl;rfl;rfl;rfl;rfl;rfl;rfl;rfl;(intro _ h;cases h);rfl;rfl;rfl;decide;decide;(first|omega|(simp only[List.length_take,List.length_drop,List.length_append,List.length_singleton,List.length_cons,List.length_nil]<;>omega)))|(apply Aa.Ap;rfl;rfl;rfl;omega;rfl)|(apply Aa.DV;rfl;rfl;rfl;rfl;omega)|refine Jq ?_|(apply Aa.int;rfl;rfl;rfl)|(apply Aa.buildSlice;rfl;rfl;rfl;decide;rfl;rfl;rfl)|(apply Aa.Io;rfl;rfl;rfl;rfl;omega)|(apply Ad.Ac;rfl)|(intro _;try(exfalso;omega)))
  all_goals try(exfalso;omega)
  refine Ai.normal ⟨by first|omega|decide,?_,?_⟩
  ·try(rw[f,c])
   exact Du
  ·rw[f,c]
   exact Ec
 ·have B:gi (Bc (bM x.bars) (x.bars.length+1)) x.bars.length=bM x.bars x.bars.length:=Dy _ (by omega)
  have e:=q x.bars.length;have u:((Bc (bM x.bars) (x.bars.length+1)).length:Int)-1=(x.bars.length:Int):=by omega
  repeat' (first|(apply Aa.OT;rfl;rfl;(first|omega|(simp only[List.length_set]<;>omega));exact congrArg (fun b=>some (FV.int .i64 b)) (B))|(apply Aa.DV (l:=Bc (bM x.bars) (x.bars.length+1)) (i:=x.bars.length);rfl;rfl;exact congrArg (fun b=>some (PV.p (.int .i64 b))) u;rfl;omega)|(apply Aa.lenV;rfl;rfl;rfl)|refine Jq ?_|(apply Aa.int;rfl;rfl;rfl)|(apply Ad.Ac;rfl)|(intro _;try(exfalso;omega)))
  all_goals try(exfalso;omega)
  refine Ad.ghost (Aq.Fg 5 1 39 rfl rfl) ?_;refine Ad.ghost (Aq.Fg 5 2 182 rfl rfl) ?_;obtain⟨z,M⟩:∃z,z=bM x.bars x.bars.length:=⟨_,rfl⟩
  rw[← M] at e ⊢;apply Ad.GU (x.notes.length) [(1,_),(2,_),(3,_),(4,_),(5,_),(8,_),(56,_),(57,_)] [(0,_),(1,_),(2,_),(3,_),(4,_),(7,_)] (fun k r=>(58,.p (.int .i64 (k:Int)))::r) (fun k r=>(6,.vec 39 (cells (Ia o z x.notes k)) (Ia o z x.notes k).length true)::(5,.box 32 [.vec 4 (Bc (bM x.bars) (x.bars.length+1)).length 0 (Bc (bM x.bars) (x.bars.length+1)).length,.vec 6 (Ia o z x.notes k).length 0 (Ia o z x.notes k).length,.vec 7 0 0 0])::r) 8
  ·first|omega|decide
  ·first|omega|decide
  ·exact Qb
  ·exact Tt
  ·intro k n
   have A:=Qr o z x.notes k;obtain⟨y1,y2,y3,y4⟩:=j.notes k n;have X:0≤((gi x.notes k).dv:Int)%(o.Ae.length:Int):=bB _ (by omega);have W:((gi x.notes k).dv:Int)%(o.Ae.length:Int)<(o.Ae.length:Int):=bz _ (by omega);have V:=I.dv (((gi x.notes k).dv:Int)%(o.Ae.length:Int)).toNat (by omega);have O:0≤((gi x.notes k).st:Int)%z:=bB _ (by omega);have N:((gi x.notes k).st:Int)%z<z:=bz _ (by omega);have T:0≤((gi x.notes k).ky:Int)%((gi o.Ae (((gi x.notes k).dv:Int)%(o.Ae.length:Int)).toNat).hi-(gi o.Ae (((gi x.notes k).dv:Int)%(o.Ae.length:Int)).toNat).lo+1):=bB _ (by omega);have S:((gi x.notes k).ky:Int)%((gi o.Ae (((gi x.notes k).dv:Int)%(o.Ae.length:Int)).toNat).hi-(gi o.Ae (((gi x.notes k).dv:Int)%(o.Ae.length:Int)).toNat).lo+1)<(gi o.Ae (((gi x.notes k).dv:Int)%(o.Ae.length:Int)).toNat).hi-(gi o.Ae (((gi x.notes k).dv:Int)%(o.Ae.length:Int)).toNat).lo+1:=bz _ (by omega);have d:=a2t 72 (ntP o z (gi x.notes k)) (Ia o z x.notes k) true (fun m=>kM m (ntP o z (gi x.notes k))) (by omega) (fun m=>a0h (ntP o z (gi x.notes k)) m);have c:Ia o z x.notes (k+1)=if(Ia o z x.notes k).any (fun m=>kM m (ntP o z (gi x.notes k)))=true then Ia o z x.notes k else Ia o z x.notes k++[ntP o z (gi x.notes k)]:=rfl
   by_cases e:(Ia o z x.notes k).any (fun m=>kM m (ntP o z (gi x.notes k)))=true
   ·rw[if_pos e] at c
    rw[e] at d
    repeat' (first|(apply Aa.read [10,6] d;rfl;rfl;exact .of_eq rfl;exact CV.AA rfl;exact Dk rfl;(repeat(first|exact trivial|refine⟨⟨_,rfl,.of_eq rfl⟩,?_⟩));decide;(intro _ e;simp at e<;>omega);rfl)|(apply Aa.makeFunc;rfl;rfl)|(apply Aa.Ap;rfl;rfl;rfl;omega;rfl)|(apply Aa.Ph;rfl;rfl;rfl;omega;omega;rfl)|refine Jq ?_|(apply Aa.int;rfl;rfl;rfl)|(apply Aa.build;rfl;rfl;rfl;rfl;rfl)|(apply Aa.b9j;rfl;rfl)|(apply Aa.Io;rfl;rfl;rfl;rfl;omega)|(apply Ad.Ac;rfl)|(apply Ad.cond_false;rfl)|(intro _;try(exfalso;omega)))
    all_goals try(exfalso;omega)
    refine Ai.normal ⟨by first|omega|decide,?_,?_⟩
    ·try(rw[c])
     exact Du
    ·rw[c]
     exact Ec
   ·rw[if_neg e] at c
    have G:(Ia o z x.notes k).any (fun m=>kM m (ntP o z (gi x.notes k)))=false:=by simpa using e
    rw[G] at d;have f:(Ia o z x.notes (k+1)).length=(Ia o z x.notes k).length+1:=by rw[c];simp
    repeat' (first|(apply Aa.read [10,6] d;rfl;rfl;exact .of_eq rfl;exact CV.AA rfl;exact Dk rfl;(repeat(first|exact trivial|refine⟨⟨_,rfl,.of_eq rfl⟩,?_⟩));decide;(intro _ e;simp at e<;>omega);rfl)|(apply Aa.makeFunc;rfl;rfl)|(apply Aa.Dn (a:=ntP o z (gi x.notes k));rfl;rfl;rfl;rfl;rfl;rfl;rfl;rfl;(intro _ h;cases h);rfl;rfl;rfl;decide;decide;(first|omega|(simp only[List.length_take,List.length_drop,List.length_append,List.length_singleton,List.length_cons,List.length_nil]<;>omega)))|(apply Aa.Ap;rfl;rfl;rfl;omega;rfl)|(apply Aa.Ph;rfl;rfl;rfl;omega;omega;rfl)|refine Jq ?_|(apply Aa.int;rfl;rfl;rfl)|(apply Aa.build;rfl;rfl;rfl;rfl;rfl)|(apply Aa.buildSlice;rfl;rfl;rfl;decide;rfl;rfl;rfl)|(apply Aa.b9j;rfl;rfl)|(apply Aa.Io;rfl;rfl;rfl;rfl;omega)|(apply Ad.Ac;rfl)|(apply Ad.cond_true;rfl)|(intro _;try(exfalso;omega)))
    all_goals try(exfalso;omega)
    refine Ai.normal ⟨by first|omega|decide,?_,?_⟩
    ·try(rw[f,c])
     exact Du
    ·rw[f,c]
     exact Ec
  ·have A:=Qr o z x.notes x.notes.length
   repeat' (first|refine JD ?_|(apply Ad.Ac;rfl)|(intro _;try(exfalso;omega)))
   all_goals try(exfalso;omega)
   apply Ad.GU (x.sets.length) [(1,_),(2,_),(3,_),(4,_),(5,_),(119,_),(120,_)] [(0,_),(1,_),(2,_),(3,_),(4,_),(6,_)] (fun k r=>(121,.p (.int .i64 (k:Int)))::(14,.p (.int .i64 (OB x.bars.length x.sets k)))::r) (fun k r=>(7,.vec 182 (cells (JC o x.bars.length x.sets k)) (JC o x.bars.length x.sets k).length true)::(5,.box 32 [.vec 4 (Bc (bM x.bars) (x.bars.length+1)).length 0 (Bc (bM x.bars) (x.bars.length+1)).length,.vec 6 (Ia o z x.notes x.notes.length).length 0 (Ia o z x.notes x.notes.length).length,.vec 7 (JC o x.bars.length x.sets k).length 0 (JC o x.bars.length x.sets k).length])::r) 8
   ·first|omega|decide
   ·first|omega|decide
   ·exact Qb
   ·exact Tt
   ·intro k n
    have y:=Vo o x.bars.length x.sets k;have hy:=(j.sets k n).1;have F:=C k n;have Z:0≤((gi x.sets k).bar:Int)%(x.bars.length:Int):=bB _ (by omega);have Y:((gi x.sets k).bar:Int)%(x.bars.length:Int)<(x.bars.length:Int):=bz _ (by omega);have c:JC o x.bars.length x.sets (k+1)=if((gi x.sets k).bar:Int)%(x.bars.length:Int)>OB x.bars.length x.sets k then JC o x.bars.length x.sets k++[⟨((gi x.sets k).bar:Int)%(x.bars.length:Int),QX o (gi x.sets k).b⟩] else JC o x.bars.length x.sets k:=rfl
    have g:OB x.bars.length x.sets (k+1)=if((gi x.sets k).bar:Int)%(x.bars.length:Int)>OB x.bars.length x.sets k then((gi x.sets k).bar:Int)%(x.bars.length:Int) else OB x.bars.length x.sets k:=rfl
    by_cases K:((gi x.sets k).bar:Int)%(x.bars.length:Int)>OB x.bars.length x.sets k
    ·rw[if_pos K] at c g
     have f:(JC o x.bars.length x.sets (k+1)).length=(JC o x.bars.length x.sets k).length+1:=by rw[c];simp
     repeat' (first|(apply Aa.fn;rfl;rfl;exact F;intro _;rfl)|(apply Aa.Dn (a:=(⟨((gi x.sets k).bar:Int)%(x.bars.length:Int),QX o (gi x.sets k).b⟩:yA));rfl;rfl;rfl;rfl;rfl;rfl;rfl;rfl;(intro _ h;cases h);rfl;rfl;rfl;decide;decide;(first|omega|(simp only[List.length_take,List.length_drop,List.length_append,List.length_singleton,List.length_cons,List.length_nil]<;>omega)))|(apply Aa.Ap;rfl;rfl;rfl;omega;rfl)|refine Jq ?_|(apply Aa.int;rfl;rfl;rfl)|(apply Aa.build;rfl;rfl;rfl;rfl;rfl)|(apply Aa.buildSlice;rfl;rfl;rfl;decide;rfl;rfl;rfl)|(apply Aa.Io;rfl;rfl;rfl;rfl;omega)|(apply Ad.Ac;rfl)|(apply Ad.Au;rfl)|(intro _;try(exfalso;omega)))
     all_goals try(exfalso;omega)
     refine Ai.normal ⟨by first|omega|decide,?_,?_⟩
     ·try(first|rw[f,c]|rw[g])
      exact Du
     ·first|rw[f,c]|rw[g]
      exact Ec
    ·rw[if_neg K] at c g
     repeat' (first|(apply Aa.Ap;rfl;rfl;rfl;omega;rfl)|refine JD ?_|(apply Aa.Io;rfl;rfl;rfl;rfl;omega)|(apply Ad.Ac;rfl)|(apply Ad.Au;rfl)|(intro _;try(exfalso;omega)))
     all_goals try(exfalso;omega)
     refine Ai.normal ⟨by first|omega|decide,?_,?_⟩
     ·try(first|rw[c]|rw[g])
      exact Du
     ·first|rw[c]|rw[g]
      exact Ec
   ·have y:=Vo o x.bars.length x.sets x.sets.length
    have J:(Bc (bM x.bars) (x.bars.length+1)).length=x.bars.length+1:=s
    repeat' (first|(refine Ad.at 27 ?_;refine Ad.ghost (Aq.trans (Aq.Dx 5 0 rfl rfl rfl) (Aq.trans (Aq.Dx 5 1 rfl rfl rfl) (Aq.Dx 5 2 rfl rfl rfl))) ?_;first|apply Ad.Bo|apply Ad.Ce)|(refine Ag.atIdx 2 ?_;apply Ag.weak [.tmp 5];decide +kernel;rfl;rfl;(first|exact TP.ref rfl|exact TP.vec rfl|exact TP.E8 rfl);decide +kernel;rfl)|apply Ad.Bo|apply Ad.FT|apply BL.normal|apply Bl.exit|apply Ai.exit|apply Ad.ret|apply Aj.nil|apply Ag.nil|apply Aj.one|(apply Ag.bar;decide +kernel)|apply Ag.quiet|(apply Aa.int;rfl;rfl;rfl)|(apply Aa.load;rfl;rfl)|(apply Aa.Gl;rfl;rfl;rfl;trivial;rfl;rfl;exact Ba rfl;exact le_dec rfl)|(apply Ad.Ac;rfl)|(intro _;try(exfalso;omega)))
    all_goals first|(exfalso;omega)|(refine Done.rt rfl rfl ⟨?_,rfl,rfl⟩;try rfl)
end Go.Proofs.YtnjkoebfgcbbdaaGreatDoor
namespace Go.Proofs.YtnjkoebfgcbbdaaGreatDoor
open Go Go.Am Go.Vm
theorem bU(x n:Nat):(x &&& (2^n-1)) / 2^n=0 :=by simp
theorem a4q(o:FQ)(d:yO o)(b:Nat→Nat)(c:∀i,b i<256):(QX o b).Ok:=by
 have e:=d.Ae;have l:=Cc (Hw o b) o.Ae.length;refine⟨fun i a=>?_,?_,?_,?_⟩
 ·have a:i<(Bc (Hw o b) o.Ae.length).length:=a
  rw[l] at a;show gi (Bc (Hw o b) o.Ae.length) i<_;rw[Dy _ a];have:=c (i%3);have:Hw o b i≤b (i%3):=fu;omega
 ·have:=c 3
  have:b 3 &&& (2^o.I8.length-1)≤b 3:=fu;show b 3 &&& (2^o.I8.length-1)<_;omega
 ·have:=c 4
  have:b 4 &&& (2^o.Ae.length-1)≤b 4:=fu;show b 4 &&& (2^o.Ae.length-1)<_;omega
 ·show(Bc (Hw o b) o.Ae.length).length<_
  omega
theorem xW(o:FQ)(b:Nat→Nat):WL o (QX o b)=0:=by
 have l:=Cc (Hw o b) o.Ae.length;rw[jf (show(Bc (Hw o b) o.Ae.length).length=_ from l) fun i a=>?_]
 ·rw[if_neg]
  intro h;rcases h with h|h
  ·exact h (bU _ _)
  ·exact h (bU _ _)
 ·have a:i<(Bc (Hw o b) o.Ae.length).length:=a
  rw[l] at a;show gi (Bc (Hw o b) o.Ae.length) i / _=0;rw[Dy _ a];exact bU _ _
open Go.Pie
attribute [local irreducible] CJ Bf Eb DW EF A8 Cj
structure NtR(o:FQ)(z:Int)(n:Me):Prop where
 d:0≤n.d∧n.d<o.Ae.length
 k:(gi o.Ae n.d.toNat).lo≤n.k∧n.k≤(gi o.Ae n.d.toNat).hi
 r:0≤n.s∧n.s<n.e∧n.e≤z
theorem c4y{o:FQ}(a:yO o){z:Int}(b:0<z)(y:Sd8):NtR o z (ntP o z y):=by
 have f:=a.Ae;have d:=bB (y.dv:Int) (show(o.Ae.length:Int)≠0 by omega);have c:=bz (y.dv:Int) (show 0<(o.Ae.length:Int) by omega);have k:=bB (y.st:Int) (show z≠0 by omega);have j:=bz (y.st:Int) b;have e:=a.dv ((y.dv:Int)%(o.Ae.length:Int)).toNat (by omega);refine⟨⟨d,c⟩,?_,?_⟩
 ·show(gi o.Ae ((y.dv:Int)%(o.Ae.length:Int)).toNat).lo≤(gi o.Ae ((y.dv:Int)%(o.Ae.length:Int)).toNat).lo+(y.ky:Int)%((gi o.Ae ((y.dv:Int)%(o.Ae.length:Int)).toNat).hi-(gi o.Ae ((y.dv:Int)%(o.Ae.length:Int)).toNat).lo+1)∧(gi o.Ae ((y.dv:Int)%(o.Ae.length:Int)).toNat).lo+(y.ky:Int)%((gi o.Ae ((y.dv:Int)%(o.Ae.length:Int)).toNat).hi-(gi o.Ae ((y.dv:Int)%(o.Ae.length:Int)).toNat).lo+1)≤(gi o.Ae ((y.dv:Int)%(o.Ae.length:Int)).toNat).hi
  generalize gi o.Ae ((y.dv:Int)%(o.Ae.length:Int)).toNat=D at *;have h:=bB (y.ky:Int) (show D.hi-D.lo+1≠0 by omega);have g:=bz (y.ky:Int) (show 0<D.hi-D.lo+1 by omega);omega
 ·show 0≤(y.st:Int)%z∧(y.st:Int)%z<min z ((y.st:Int)%z+1+(y.lg:Int)%8)∧min z ((y.st:Int)%z+1+(y.lg:Int)%8)≤z
  omega
theorem b1o{o:FQ}(b:yO o){z:Int}(a:0<z)(l:List Sd8):∀k,∀i,i<(Ia o z l k).length→NtR o z (gi (Ia o z l k) i)∧∀j,j<i→kM (gi (Ia o z l k) j) (gi (Ia o z l k) i)=false
 |0,i,hi=>by contradiction
 |k+1,i,hi=>by
  have g:=b1o b a l k;unfold Ia at hi ⊢;split at hi
  ·grind
  ·rename_i n
   rw[if_neg n];rw[aD] at hi;have h:i<(Ia o z l k).length+1:=hi;by_cases e:i<(Ia o z l k).length
   ·obtain⟨d,p⟩:=g i e
    rw[Iz,if_pos e];refine⟨d,fun j c=>?_⟩;rw[Iz,if_pos (by omega)];grind
   ·obtain rfl:i=(Ia o z l k).length:=by omega
    rw[Iz,if_neg (by omega),if_pos rfl];refine⟨c4y b a _,fun j c=>?_⟩;rw[Iz,if_pos c];have q:=(dh (l:=Ia o z l k) (f:=fun m=>kM m (ntP o z (gi l k))) (i:=(Ia o z l k).length) (ab _)).1 (by grind);grind
theorem wu{nb:Nat}(h:0<nb)(l:List Mrk):∀k,-1≤OB nb l k∧OB nb l k<nb
 |0=>by simp only[OB];omega
 |k+1=>by
  have:=wu h l k;have a:=bz ((gi l k).bar:Int) (show 0<(nb:Int) by omega);unfold OB;split<;>omega
theorem b3m(o:FQ){nb:Nat}(h:0<nb)(l:List Mrk):∀k,k≤l.length→∀i,i<(JC o nb l k).length→(0≤(gi (JC o nb l k) i).bar∧(gi (JC o nb l k) i).bar≤OB nb l k) ∧
 (0<i→(gi (JC o nb l k) (i-1)).bar<(gi (JC o nb l k) i).bar)∧∃m,m<l.length∧(gi (JC o nb l k) i).reg=QX o (gi l m).b
 |0,_,i,hi=>by contradiction
 |k+1,hk,i,hi=>by
  have f:=b3m o h l k (by omega);have p:=bB ((gi l k).bar:Int) (show(nb:Int)≠0 by omega);have d:JC o nb l (k+1)=if((gi l k).bar:Int)%(nb:Int)>OB nb l k then JC o nb l k++[⟨((gi l k).bar:Int)%(nb:Int),QX o (gi l k).b⟩] else JC o nb l k:=rfl
  have c:OB nb l (k+1)=if((gi l k).bar:Int)%(nb:Int)>OB nb l k then((gi l k).bar:Int)%(nb:Int) else OB nb l k:=rfl
  rw[d] at hi;rw[d,c];by_cases a:((gi l k).bar:Int)%(nb:Int)>OB nb l k
  ·rw[if_pos a] at hi
   rw[if_pos a,if_pos a];rw[aD] at hi;have n:i<(JC o nb l k).length+1:=hi;by_cases e:i<(JC o nb l k).length
   ·obtain⟨d,c,j⟩:=f i e
    rw[Iz,if_pos e];refine⟨by omega,fun g=>?_,j⟩;rw[Iz,if_pos (by omega)];exact c g
   ·obtain rfl:i=(JC o nb l k).length:=by omega
    rw[Iz,if_neg (by omega),if_pos rfl];refine⟨⟨p,bl _⟩,fun g=>?_,k,by omega,rfl⟩;rw[Iz,if_pos (by omega)];have:=(f ((JC o nb l k).length-1) (by omega)).1;show _<((gi l k).bar:Int)%(nb:Int);omega
  ·rw[if_neg a] at hi
   rw[if_neg a,if_neg a];exact f i hi
theorem VN(x:gG){i:Nat}(h:i≤x.bars.length):gi (mkP x).bars i=bM x.bars i:=Dy _ (by omega)
theorem uz(x:gG):(mkP x).bars.length=x.bars.length+1:=Cc _ _
theorem b5k(x:gG):Nr (mkP x)=0:=VN x (an _)
theorem b4u(x:gG):NG (mkP x)=bM x.bars x.bars.length:=by
 unfold NG;rw[uz];exact VN x (by omega)
theorem b5u(l:List UInt8)(i:Nat):bM l i<bM l (i+1):=by
 show _<bM l i+1+((gi l i).toNat:Int)%6;omega
theorem b8h(x:gG)(d:x.Ok)(g:PX x):pV (eF x.org) (mkP x):=by
 have f:=qA x.org d.org g.1;obtain⟨_,⟨f1,f2⟩,B,A⟩:=g;have o:0<bM x.bars x.bars.length:=by have:=(oC x.bars x.bars.length).1;omega
 have q:=b1o f o x.notes x.notes.length;have u:=Qr (eF x.org) (bM x.bars x.bars.length) x.notes x.notes.length;have h:=b3m (eF x.org) f1 x.sets x.sets.length (ab _);have s:=Vo (eF x.org) x.bars.length x.sets x.sets.length;have y:=wu f1 x.sets x.sets.length;have r:(mkP x).notes=Ia (eF x.org) (bM x.bars x.bars.length) x.notes x.notes.length:=rfl;have j:(mkP x).sets=JC (eF x.org) x.bars.length x.sets x.sets.length:=rfl;have C:=uz x;refine a2r ⟨by omega,by grind,by grind,fun i a=>?_⟩ (by omega) (fun i a=>?_) (by grind) (fun i a=>?_) (by grind) fun i a=>?_
 ·rw[j] at a ⊢
  obtain⟨_,_,m,p,e⟩:=h i a;rw[e];exact a4q _ f _ (d.sets m p).2
 ·rw[VN x (by omega)]
  have:=oC x.bars i;refine⟨by omega,fun z=>?_⟩;rw[VN x (by omega)];have:=b5u x.bars (i-1)
  rwa[show i-1+1=i by omega] at this
 ·obtain⟨⟨c,b,n⟩,k⟩:=q i (by rw[← r];exact a)
  exact⟨c,b,by rw[b5k,b4u];exact n,k⟩
 ·rw[j] at a ⊢
  obtain⟨c,b,m,_,e⟩:=h i a;refine⟨by omega,b,?_⟩;rw[e];exact xW _ _
theorem b6b(x:gG)(a:x.Ok)(b:PX x):Ui (eF x.org) (mkP x)=0:=by
 unfold Ui;rw[if_neg (fun h=>h (qA x.org a.org b.1).ok)];exact(b8h x a b).err
end Go.Proofs.YtnjkoebfgcbbdaaGreatDoor
