/-
  Texts of a proof, merged (AmD). Conditions: in each statement.
-/
import Derived.RangeFuncLeaves
import GoSem.ClaimChange
import Derived.ProofKit
import Derived.Below
import Derived.WideShapes
import Derived.ChangeMaps5
import GoSem.ClaimJoined
import Derived.Test.YthlffjlbidibdaaGreatDoorKHc
set_option linter.unusedSimpArgs false
set_option autoImplicit true
set_option relaxedAutoImplicit true
set_option linter.unusedVariables false
set_option linter.unusedSectionVars false
set_option maxRecDepth 100000
set_option maxHeartbeats 8000000
abbrev aL:=@List.length_map
abbrev bq:=@Nat.eq_zero_or_pos
abbrev bX:=@List.mem_cons_self
abbrev cV:=@Array.getD_eq_getD_getElem?
abbrev dm:=@Eq.trans
abbrev dy:=@Nat.mul_pos
abbrev fa:=@List.map_map
abbrev fq:=@List.length_range
abbrev gr:=@List.map_congr_left
abbrev gz:=@Array.getElem?_append_right
abbrev gL:=@Array.mapM_eq_mapM_toList
abbrev gM:=@List.getElem?_zip_eq_some
abbrev io:=@List.range_succ_eq_map
abbrev iu:=@Array.getElem?_toList
namespace Go.Am
section
variable {P:Program}{G:List Nat}{ds:List Deferred}{rf:Option Nat}{nn:Nat}
theorem Zg(a:Dl call):∀(l:List Oper) (s s':St),Jt P call ops l s=some s'→AQ s.m s'.m
 |[],s,s',h=>by cases h;exact AQ.refl _
 |o::l,s,s',h=>by
  simp only[Jt] at h;cases h1:JC P call ops o s with
  |none=>grind
  |some s1 =>
   rw[h1] at h;refine AQ.trans ?_ (Zg a l s1 s' h);unfold JC at h1;split at h1
   ·unfold uU at h1
    split at h1
    ·rename_i v m b;cases h1;exact KA a b
    grind
   ·cases h1;exact AQ.refl _
theorem Zk(e:Dl call):∀(l:List Oper) (i:Nat) (s s':St),I9 P call ops i l s=some s'→AQ s.m s'.m
 |[],i,s,s',h=>by cases h;exact AQ.refl _
 |o::l,i,s,s',h=>by
  simp only[I9] at h;cases h1:NG P call ops i o s with
  |none=>grind
  |some s1 =>
   rw[h1] at h;refine AQ.trans ?_ (Zk e l (i+1) s1 s' h);rcases Ic h1 with⟨_,_,x,d,f,_⟩|⟨_,v,n,g,_,d,_⟩
   ·rw[d];exact⟨ab _,f,fun _ _ _=>rfl,fun _ _ _=>rfl,fun _ _=>rfl⟩
   ·have c:=KA e g
    rw[d];exact⟨c.size,co _ _,fun b a k=>c.keep b a (ag k (cw _ _)),fun b a j=>c.ro b a j,fun b a=>c.ro' b a⟩
theorem Sr{ask:Mem→Prop}(e:∀s s' x,f s=some (x,s')→AQ s.m s'.m)(a:∀s s' x,c s=some (x,s')→AQ s.m s'.m) :
 ∀(rows:List (List Value)) (m m':Mem) (x:BP),Ee n f c ask t ps rows m=some (x,m')→AQ m m'
 |[],m,m',x,h=>by
  simp only[Ee,Option.some.injEq,Prod.mk.injEq] at h;rw[h.2];exact AQ.refl _
 |vs::rest,m,m',x,h=>by
  obtain⟨_,_,s1,o,p,s2,l,k⟩:=JE h;have d:=(e _ _ _ o).trans (a _ _ _ l);have j:AQ m (JL s2.m (min m.low s2.m.low)):=⟨d.size,co _ _,fun b a i=>d.keep b a (ag i (cw _ _)),fun b a g=>d.ro b a g,fun b a=>d.ro' b a⟩
  rcases k with⟨_,_,q⟩|⟨_,_,q⟩
  ·exact j.trans (Sr e a rest _ _ _ q)
  grind
theorem cu(w:Dl call):∀(c:Code) (s s':St) (x:BP),BO P call N c s=some (x,s')→AQ s.m s'.m:=by
 intro c
 induction c with
 |skip=>intro s s' x h;cases h;exact AQ.refl _
 |label l=>intro s s' x h;cases h;exact AQ.refl _
 |ret=>intro s s' x h;cases h;exact AQ.refl _
 |exit id=>intro s s' x h;cases h;exact AQ.refl _
 |goto l=>intro s s' x h;cases h
 |scope b _=>intro s s' x h;cases h
 |refuse y=>intro s s' x h;cases h
 |rangeFunc f F y z p o =>
  intro s s' x h;simp only[BO] at h;split at h
  case h_2=>cases h
  split at h
  case h_2=>cases h
  split at h
  case isFalse=>cases h
  split at h
  case h_2=>cases h
  split at h
  case h_2=>cases h
  rw[ae] at h;obtain⟨⟨d,H⟩,i,j⟩:=h;cases j;exact Sr p o _ _ _ _ i
 |seq A E g e =>
  intro s s' x h;simp only[BO] at h;cases a:BO P call N A s with
  |none=>grind
  |some r =>
   obtain⟨d,s1⟩:=r;rw[a] at h;have:=g s s1 d a;cases d with
   |normal=>exact this.trans (e s1 s' x h)
   |ret=>grind
   |exit id=>grind
 |cond I A E g e =>
  intro s s' x h;simp only[BO] at h;grind
 |block id b u =>
  intro s s' x h;simp only[BO] at h;grind
 |loop b u =>
  intro s s' x h;simp only[BO] at h;have C:∀(k:Nat) (s s':St) (x:BP),iterate (BO P call N b) k s=some (x,s')→AQ s.m s'.m:=by
   intro k
   induction k with
   |zero=>intro s s' x h;cases h
   |succ k q =>
    intro s s' x h;simp only[iterate] at h;cases a:BO P call N b s with
    |none=>grind
    |some r =>
     obtain⟨d,s1⟩:=r;rw[a] at h;have:=u s s1 d a;cases d with
     |normal=>exact this.trans (q s1 s' x h)
     |ret=>grind
     |exit id=>grind
  grind
 |region id B n =>
  intro s s' x h;cases n with
  |false =>
   simp only[BO,Option.map_eq_some_iff] at h;obtain⟨s1,a,j⟩:=h;cases j;exact Zg w _ _ _ a
  |true =>
   simp only[BO,Option.map_eq_some_iff] at h;obtain⟨s1,a,j⟩:=h;cases j;exact Zk w _ _ _ _ a
theorem Hq:∀(l:List Value) (k:Nat) (t:Tr Value) (i:Nat),CO (tmpsOf k l t) i=if k≤i∧i<k+l.length then l.getD (i-k) undef else CO t i
 |[],k,t,i=>by simp only[tmpsOf];grind
 |v::l,k,t,i=>by
  simp only[tmpsOf];rw[Hq l (k+1) (Rq t k v) i,Dt];grind
def tK(tmps:Array Value):ResultVar→Sem Value
 | .tmp t=>pure (tmps.getD t undef)
 | .cell a t=>do loadVar t (← asAddr (tmps.getD a undef))
theorem jH(b:Ep P G ds n s ι a w)(h:KU P s r=some v) :
 ∃v',(tK a.tmps r).run P w=.ok v' w∧Az ι s.m.gen v v':=by
 cases r with
 |tmp t=>cases h;exact⟨_,rfl,b.2.val t⟩
 |cell c t =>
  simp only[KU] at h;have d:=b.2.val c;cases hc:CO s.t c<;>rw[hc] at h d<;>first|(cases h)|skip
  rename_i f;cases f with
  |none=>cases h
  |some f =>
   obtain⟨g,i,e⟩:∃g,a.tmps.getD c undef=.pointer (some g)∧QL ι s.m.gen f g:=by
    generalize a.tmps.getD c undef=u at d;cases d;grind
   obtain⟨v',k,j⟩:=Q5 b.1 e h;exact⟨v',by simp only[tK,i,asAddr,Sem.run_bind,Sem.run_pure,Result.andThen_ok];omega,j⟩
theorem UU(c:Ep P G ds n s ι a w):∀(rs:List ResultVar) (vs:List Value),P6 (KU P s) rs=some vs →
 ∃b,(rs.mapM (tK a.tmps)).run P w=.ok b w∧BF ι s.m.gen vs b
 |[],vs,h=>by cases h;exact⟨[],rfl,BF.nil⟩
 |r::rs,vs,h=>by
  simp only[P6] at h;split at h
  ·rename_i v l j i
   cases h;obtain⟨d,o,f⟩:=jH c j;obtain⟨g,k,e⟩:=UU c rs l i;refine⟨d::g,?_,BF.cons f e⟩;simp_all
  grind
theorem QF(g:Ep P G ds n s ι a w)(h:FM P fn s=some v) :
 ∃v',(results fn a.tmps).run P w=.ok v' w∧Az ι s.m.gen v v':=by
 have j:results fn a.tmps=(do let c ← fn.results.mapM (tK a.tmps);pure (if h:c.size=1 then c[0] else .tuple c)):=by
  rfl
 unfold FM at h;have run:∀c,P6 (KU P s) fn.results.toList=some c→∃b:List Value,BF ι s.m.gen c b∧(results fn a.tmps).run P w=.ok (if h:b.toArray.size=1 then b.toArray[0] else .tuple b.toArray) w:=fun c f=>by
  obtain⟨b,d,k⟩:=UU g _ _ f;refine⟨b,k,?_⟩;rw[j,gL];simp_all
 split at h
 ·rename_i r i
  cases h;obtain⟨b,d,k⟩:=run _ i;obtain⟨v',o,rfl,u,q⟩:=d.Iz;have:o=[]:=aw.1 q.1.symm;grind
 ·rename_i c p i
  cases h;obtain⟨b,d,k⟩:=run _ i;have l:b.length≠1:=fun e=>by
   have:c.length=1:=d.1.trans e
   match c,this with
   |[x],_=>grind
  exact⟨.tuple b.toArray,by grind,.tuple c b d.1 d.2⟩
 grind
def UD(P:Program)(G:List Nat)(f:FuncId)(F:List Value→Mem→Option (Value×Mem)):Prop:=∀(fn:Func) (lb:List Value) (m m1:Mem) (v:Value) (rows:List (List Value)),P.funcs[f]?=some fn→F (EN fn.ntmps lb) m=some (v,m1)→PS v=some rows →
 ∀(ι:BJ) (w:World) (lb':Array Value),DR P G ι m w→BF ι m.gen lb lb'.toList→Y9 P f lb' rows (JR P G (fun m'=>∃m1',F (EN fn.ntmps lb) m'=some (v,m1')) ι m.gen lb lb') w
theorem UD.c0t(h:∀Bo m v m',F Bo m=some (v,m')→PS v=none):UD P G f F:=fun fn b m m1 v a _ d c=>by grind
theorem a3x(n:Nat)(lb:List Value):EN n lb=aB::(List.replicate n aB++lb):=rfl
theorem UD.none(h:∀n lb m,F (EN n lb) m=none):UD P G f F:=fun fn lb m m1 v a _ b=>by grind
def EI(P:Program)(G:List Nat)(O:BG):Prop:=∀f F,O f=some F→a5z P G f F∧(∀Bo m v m',F Bo m=some (v,m')→AQ m m')∧Enters P f∧UD P G f F
theorem Qa(c:EI P G O):∀D,Dl (Ei P O G N D)
 |0=>fun f g m v e h=>by cases h
 |D+1=>fun f g m v e h=>by
  simp only[Ei] at h;split at h
  ·rename_i r a
   rw[bb] at a;obtain⟨F,a,j⟩:=a;cases h;exact(c f F a).2.1 g m v e j
  ·split at h
   ·cases h
   ·split at h
    ·cases h
    ·split at h
     ·split at h
      ·rename_i i b
       rw[ae] at h;obtain⟨u,_,d⟩:=h;cases d;exact cu (Qa c D) _ _ _ _ b
      ·rename_i i b
       rw[ae] at h;obtain⟨u,_,d⟩:=h;cases d;exact cu (Qa c D) _ _ _ _ b
      grind
     grind
theorem Qv(n:Nat)(lb:List Value):n<(EN n lb).length:=by unfold EN;grind
theorem kW(p:EI P G O):∀D,gG P G (Ei P O G N D)
 |0=>fun g fn c m m1 v a _ h=>by cases h
 |D+1=>fun g fn c m m1 v a e h n=>by
  have j:∀b,(O g).bind (fun F=>F (EN fn.ntmps c) b)=none→Ei P O G N (D+1) g (EN fn.ntmps c) b=none:=fun b i=>by
   have:=Qv fn.ntmps c;simp only[Ei,i,e];grind
  have d:∀b,Ei P O G N (D+1) g (EN fn.ntmps c) b=(O g).bind (fun F=>F (EN fn.ntmps c) b):=fun b=>by
   cases i:(O g).bind (fun F=>F (EN fn.ntmps c) b) with
   |none=>grind
   |some r=>simp only[Ei,i]
  rw[d] at h;rw[bb] at h;obtain⟨F,k,q⟩:=h;obtain⟨_,_,u,s⟩:=p g F k;refine⟨u,fun ι w f l o=>?_⟩;simp only[d,k,Option.bind_some];exact s fn c m m1 v a e q n ι w f l o
theorem sim_put'(c:DR P G ι m W)(h:W.heap[l]?=some (.deferred (some ds)))(x:Obj):DR P G ι m (W.putObj l x):=by
 have f:=grownBy_putObj' W l x;refine⟨fun b a d=>⟨(c.dom b a d).1,ag (c.dom b a d).2 f.size⟩,fun b a d=>?_,c.inj,c.glob⟩;rw[f.block a.blk (c.dom b a d).2 ?_];exact c.blk b a d;intro e;have i:a.blk=l:=by grind
 have g:=c.blk b a d;rw[i,h] at g;obtain⟨_,_,j⟩:=OG g rfl;grind
theorem Marks.put:∀{ds:List Deferred},(∀a∈ds,a≠{ target:=.collected D,args:=#[] })→Marks B w ds→Marks B (w.putObj D x) ds
 |[],_,h=>by
  have:B≤w.heap.size:=h;simpa[Marks] using this
 |d::ds,hn,⟨⟨D',e,hBD,hD,hne⟩,hr⟩=>by
  refine⟨⟨D',e,hBD,?_,hne⟩,Marks.put (fun a b=>hn a (am _ b)) hr⟩;rw[World.putObj_heap_other (fun c=>hn d (bX ..) (by grind))];omega
theorem Qe:∀(ds:List Deferred) (w:World),Marks B w ds→DR P G ι m w →
 (∀w',DR P G ι m w'→w.heap.size≤w'.heap.size→(∀c,c<B→w'.heap[c]?=w.heap[c]?)→w'.tape=w.tape→w'.os=w.os→w'.output=w.output→LeavesIn Fence.wide 0 P fn tmps R [] .returning w')→LeavesInM Fence.wide 0 P fn tmps R ds .returning w
 |[],w,_,hs,h=>h w hs (ab _) (fun _ _=>rfl) rfl rfl rfl
 |d::ds,w,⟨⟨D,e,hBD,hD,hne⟩,hr⟩,hs,h=>by
  refine⟨(by simp),.inl ⟨D,_,by rw[e],run_takeDeferred hD,?_⟩⟩;have a:∀c,c≠D→(w.putObj D (.deferred none)).heap[c]?=w.heap[c]?:=fun c b=>World.putObj_heap_other b
  refine Qe ds _ ?_ ?_ fun w' k l j i g f=>h w' k (by simp_all) (fun c b=>(j c b).trans (a c (by omega))) i g f
  ·rw[e] at hne;exact Marks.put hne hr
  ·exact sim_put' hs hD _
theorem Ib{N:Nat}(C:EI P G O)(X:P.follows .mixedOrders=true):∀D,Kw P G (Ei P O G N D)
 |0=>fun f=>⟨(fun q m v H h=>by cases h),(fun q m r h=>by cases h)⟩
 |D+1=>fun f=>by
  have T:=Qa (N:=N) C D;have hc:=Ib (N:=N) C X D;refine⟨fun q m v H h ι w d Y g=>?_,fun q m r h=>?_⟩
  ·simp only[Ei] at h
   split at h
   ·rename_i r l
    rw[bb] at l;obtain⟨F,l,M⟩:=l;cases h;exact(C f F l).1 q m v H M ι w d Y g
   ·split at h
    ·cases h
    ·rename_i fn y
     split at h
     ·cases h
     ·rename_i c hb
      split at h
      ·rename_i k
       simp only[Bool.and_eq_true,decide_eq_true_eq] at k;obtain⟨b,Z⟩:=k;unfold IV at b;simp only[Bool.and_eq_true] at b;have R:d.size=q.length:=by have:=g.1;grind
       have K:Ep P G [] fn.ntmps { t:=tmpsOf 0 q .leaf,m:=m } ι { tmps:=d++Array.replicate (fn.ntmps-d.size) undef,defers:=[] } w:=by
        refine⟨Y,by grind,rfl,fun i=>?_⟩;rw[Hq];by_cases hi:i<q.length
        ·have U:=g.2 i hi
         have S:i<d.size:=by omega
         have e:(d++Array.replicate (fn.ntmps-d.size) undef).getD i undef=d.toList.getD i undef:=by
          rw[cV,dc S,getD_eq,iu]
         grind
        ·rw[if_neg (by omega)]
         have e1:CO (.leaf:Tr Value) i=undef:=mT _ _;have e2:(d++Array.replicate (fn.ntmps-d.size) undef).getD i undef=undef:=by
          rw[cV,gz (by omega)];grind
         rw[e1,e2];exact Az.undef
       have W:∀(x:BP) (s:St),BO P (Ei P O G N D) N c { t:=tmpsOf 0 q .leaf,m:=m }=some (x,s)→(x=.normal∨x=.ret)→(FM P fn s).map (fun v=>(v,s.m))=some (v,H) →
        Calls P f d w fun e w'=>∃o,e=.returned o∧Post P G ι m w v H o w':=fun x s hx J p=>by
        rw[ae] at p;obtain⟨v0,L,he⟩:=p;cases he;refine(callsIn_wide (n:=0)).1 (callsIn_of_wp_marks y hb trivial ?_);refine(wpIn_wide (n:=0)).2 ((wpIn_wide (n:=0)).1 (Y7 hc (kW C D) (aZ hc T X) c w.heap.size [] none 0 _ s x ι _ w _ (.inl rfl) b.2 hx K (ab _) fun E V w' M Q _=>?_));obtain⟨z,a,j⟩:=M;have u:LeavesInM Fence.wide 0 P fn V.tmps (fun e w'=>∃o,e=.returned o∧Post P G ι m w v s.m o w') V.defers .returning w':=by
         rw[j.2.defers];refine Qe E w' Q j.1 fun I U h2 h3 h4 h5 h6=>?_
         have A:Ep P G E fn.ntmps s z V I:=⟨U,j.2⟩
         obtain⟨o,q1,q2⟩:=QF A L;refine⟨o,q1,o,rfl,z,?_,U,q2⟩;exact⟨a.size,a.low,a.keep,a.ro,a.ro',a.le,a.back,a.dom,an a.heap h2,fun c B hf=>(h3 c B).trans (a.frame c B hf),h4.trans a.tape,h5.trans a.os,h6.trans a.output⟩
        rcases J with rfl|rfl<;>exact u
       grind
      grind
  ·simp only[Ei] at h
   split at h
   ·rename_i r l
    rw[bb] at l;obtain⟨F,l,_⟩:=l;exact(C f F l).2.2.1
   ·split at h
    ·cases h
    ·rename_i fn y
     split at h
     ·cases h
     ·rename_i c hb
      split at h
      ·rename_i k
       simp only[Bool.and_eq_true,decide_eq_true_eq] at k;have b:=k.1;unfold IV at b;simp only[Bool.and_eq_true,Bool.not_eq_true'] at b;exact⟨fn,y,by grind,b.1⟩
      grind
end
section
variable {P:Program}{G:List Nat}
def SH(m:Mem):Prop:=∀b,b<m.size→m.ro b=true
structure Grow(ι:BJ)(m:Mem)(ι':BJ)(m':Mem):Prop where
 le:Le ι m.gen ι' m'.gen
 size:m.size≤m'.size
 get:∀b,b<m.size→m'.get b=m.get b
theorem Grow.refl(ι:BJ)(m:Mem):Grow ι m ι m:=⟨Le.refl _ _,ab _,fun _ _=>rfl⟩
theorem Grow.trans(h:Grow ι m c m')(k:Grow c m' a d):Grow ι m a d :=
 ⟨h.le.trans k.le,an h.size k.size,fun b e=>(k.get b (ag e h.size)).trans (h.get b e)⟩
theorem a4f(j:DR P G ι m W)(s:SH m)
 (A:W.heap[c]?=some (.cells cs e' H)) (B:∀i,i<vs.length→∃v',cs[sh+i]?=some v'∧Az ι m.gen (vs.getD i undef) v') :
 ∃f,DR P G f (m.alloc (.cells vs e 0 true)) W∧f m.size=some ⟨c,sh,cs.size,P.cellsOf e⟩∧Grow ι m f (m.alloc (.cells vs e 0 true))∧SH (m.alloc (.cells vs e 0 true)):=by
 have hget:∀b,b<m.size→(m.alloc (.cells vs e 0 true)).get b=m.get b:=fun b a=>by rw[dZ,if_neg (by omega)]
 have z:∀b,b<m.size→(m.alloc (.cells vs e 0 true)).gen b=m.gen b:=fun b a=>CY (hget b a)
 have g:(m.alloc (.cells vs e 0 true)).get m.size=.cells vs e 0 true:=by rw[dZ,if_pos rfl]
 have o:SH (m.alloc (.cells vs e 0 true)):=fun b a=>by
  by_cases h:b=m.size
  ·subst h;exact Mem.Qz g
  ·have:b<m.size:=by simp only[Mem.alloc] at a;omega
   rw[FQ (hget b this)];exact s b this
 let f:BJ:=fun b=>if b=m.size then some ⟨c,sh,cs.size,P.cellsOf e⟩ else ι b
 have l:Le ι m.gen f (m.alloc (.cells vs e 0 true)).gen:=fun b d a=>by
  have q:=(j.dom b d a).1;grind
 have y:c<W.heap.size:=(al.1 A).1;refine⟨f,⟨fun b d a=>?_,fun b d a=>?_,fun b r d p a n I=>?_,fun k C=>?_⟩,if_pos rfl,⟨l,by simp[Mem.alloc],hget⟩,o⟩
 ·change (if b=m.size then some _ else ι b)=some d at a
  split at a
  ·cases a;exact⟨by simp[Mem.alloc];omega,y⟩
  ·have:=j.dom b d a
   exact⟨by simp only[Mem.alloc];omega,this.2⟩
 ·change (if b=m.size then some _ else ι b)=some d at a
  split at a
  ·rename_i u;cases a;subst u
   rw[g,A];refine⟨(fun h=>by cases h),rfl,rfl,fun i E=>?_,(fun h=>by cases h)⟩;obtain⟨v',x,w⟩:=B i E;exact⟨v',x,w.mono l⟩
  ·rw[hget b (j.dom b d a).1]
   exact(j.blk b d a).mono l
 ·refine .inr ⟨o b ?_,o r ?_⟩
  ·change (if b=m.size then some _ else ι b)=some d at a
   split at a
   ·simp[Mem.alloc];omega
   ·have:=(j.dom b d a).1;simp only[Mem.alloc];omega
  ·change (if r=m.size then some _ else ι r)=some p at n
   split at n
   ·simp[Mem.alloc];omega
   ·have:=(j.dom r p n).1;simp only[Mem.alloc];omega
 ·obtain⟨d,x,w,F,K,J⟩:=j.glob k C
  have q:=(j.dom k d x).1;refine⟨d,?_,w,⟨F.1,by grind⟩,by grind,by rw[FQ (hget k q)];omega⟩;grind
def Yr{H:Type}(g:TypeId→DataW H→Mem→Option (List Value×Mem)):List (TypeId×DataW H)→Mem→Option (List Value×Mem)
 |[],m=>some ([],m)
 |(t,d)::rest,m=>match g t d m with
  |some (l,m1)=>match Yr g rest m1 with
   |some (r,m2)=>some (l++r,m2)
   |none=>none
  |none=>none
def Uh{H:Type}(P:Program):Nat→TypeId→DataW H→Mem→Option (List Value×Mem)
 |0,_,_,_=>none
 |f+1,t,d,m =>
  match P.underlying t,d with
  |some .bool,.lit (.bool b)=>some ([.bool b],m)
  |some (.int k),.lit (.int _ n)=>some ([.int k n],m)
  |some .string,.lit (.string s)=>some ([.string ⟨s.toArray⟩],m)
  |some (.slice _),.nil=>some ([.slice none 0 0],m)
  |some (.slice e),.slice elems spare =>
   if P.cellsOf e=0 then none else
   if elems.isEmpty&&spare.isEmpty then some ([.slice (some ⟨0,0,some 0⟩) 0 0],m) else
   match Yr (Uh P f) (elems.map fun x=>(e,x)) m with
   |some (l,m1)=>some ([.slice (some ⟨m1.size,0,none⟩) elems.length 0],m1.alloc (.cells l e 0 true))
   |none=>none
  |some (.struct fs),.agg parts =>
   if(fs.toList.map fun fd=>((List.range (P.cellsOf t)).drop fd.offset).take (P.cellsOf fd.type)).flatten=List.range (P.cellsOf t) then
    Yr (Uh P f) ((fs.toList.map (·.type)).zip parts) m else none
  |some (.array n e),.agg parts =>
   if((List.range n).map fun i=>((List.range (P.cellsOf t)).drop (i*P.cellsOf e)).take (P.cellsOf e)).flatten=List.range (P.cellsOf t) then
    Yr (Uh P f) (parts.map fun x=>(e,x)) m else none
  |_,_=>none
theorem mapM_some{α β:Type}{f:α→Option β}:∀{l:List α} {r:List β},l.mapM f=some r→r.length=l.length∧∀(i:Nat) a,l[i]?=some a→∃b,r[i]?=some b∧f a=some b
 |[],r,h=>by
  grind
 |x::l,r,h=>by
  rw[List.mapM_cons] at h;simp only[bind,Option.bind_eq_some_iff,pure,Option.some.injEq] at h;obtain⟨y,j,d,c,rfl⟩:=h;obtain⟨g,e⟩:=mapM_some c;grind
def Oy(P:Program)(G:List Nat)(W:World)(ι:BJ)(m:Mem)(l:List Value)(m':Mem)(cs:List Value):Prop :=
 ∃ι',DR P G ι' m' W∧Grow ι m ι' m'∧SH m'∧BF ι' m'.gen l cs
theorem PI:∀(xs:List (TypeId×DataW H)) (css:List (List Value)) (ι:BJ) (m m':Mem) (l:List Value),
 xs.length=css.length→(∀(i:Nat) (t:TypeId) (d:DataW H) (cs:List Value),xs[i]?=some (t,d)→css[i]?=some cs→∀(ι:BJ) (m m':Mem) (l:List Value),DR P G ι m W→SH m→g t d m=some (l,m')→Oy P G W ι m l m' cs) →
 DR P G ι m W→SH m→Yr g xs m=some (l,m')→Oy P G W ι m l m' css.flatten
 |[],css,ι,m,m',l,hlen,_,hs,hro,h=>by
  cases h;have:css=[]:=aw.1 hlen.symm;subst this;exact⟨ι,hs,Grow.refl _ _,hro,BF.nil⟩
 |(t,d)::xs,css,ι,m,m',l,hlen,hg,hs,hro,h=>by
  match css,hlen with
  |cs::css,hlen =>
   simp only[Yr] at h;cases h1:g t d m with
   |none=>grind
   |some r =>
    obtain⟨f,m1⟩:=r;rw[h1] at h;simp only at h;cases h2:Yr g xs m1 with
    |none=>grind
    |some c =>
     obtain⟨e,m2⟩:=c;rw[h2] at h;cases h;obtain⟨b,p,o,n,k⟩:=hg 0 t d cs (by simp) (by simp) ι m m1 f hs hro h1;obtain⟨a,b1,b2,b3,j⟩:=PI xs css b m1 m' e (by grind) (fun i t d cs s q=>hg (i+1) t d cs (by grind) (by grind)) p n h2;refine⟨a,b1,o.trans b2,b3,?_⟩;exact(k.mono b2.le).append j
theorem Rh(cs:List Value):(List.range cs.length).map (fun i=>cs.getD i undef)=cs:=by
 apply bo;grind
theorem UH{α:Type}(cs:List Value)(l:List α)(off size:α→Nat)
 (h:(l.map fun a=>((List.range cs.length).drop (off a)).take (size a)).flatten=List.range cs.length):(l.map fun a=>(cs.drop (off a)).take (size a)).flatten=cs:=by
 have b:=congrArg (List.map fun i=>cs.getD i undef) h;rw[Rh,List.map_flatten,fa] at b;refine dm ?_ b;congr 1
 apply gr;intro a _;simp only[Function.comp,List.map_take,List.map_drop,Rh]
theorem oQ(sz:Nat):∀(n:Nat) (row:List Value),row.length=n*sz→((List.range n).map fun i=>(row.drop (i*sz)).take sz).flatten=row:=by
 intro n
 induction n with
 |zero=>simp
 |succ n a =>
  intro row h;rw[io,bv,List.flatten_cons,fa];have d:(row.drop sz).length=n*sz:=by grind
  have c:=a (row.drop sz) d;have b:(List.map ((fun i=>List.take sz (List.drop (i*sz) row)) ∘ Nat.succ) (List.range n))=(List.map (fun i=>List.take sz (List.drop (i*sz) (List.drop sz row))) (List.range n)):=by
   apply gr;intro i _;simp only[Function.comp,List.drop_drop];grind
  rw[b,c];simp
theorem cells?_some{W:World}(h:W.cells? 0 a n=some cs):cs.length=n∧∀i,i<n→W.cell? (a.add i)=cs[i]?:=by
 obtain⟨g,d⟩:=mapM_some h;refine⟨by grind,fun i c=>?_⟩;obtain⟨b,f,e⟩:=d i i (cj c);grind
theorem jA{W:World}:∀(f:Nat) (t:TypeId) (cs:List Value) (d:DataW H) (ps:List MemPlace),
 DataW.trod enc P W 0 (fun _=>true) held f t cs=some (d,ps)→∀(ι:BJ) (m m':Mem) (l:List Value),DR P G ι m W→SH m→Uh P f t d m=some (l,m')→Oy P G W ι m l m' cs:=by
 intro f
 induction f with
 |zero=>intro t cs d ps h;cases h
 |succ f ih =>
  intro t cs d ps h ι m m' l F p o;have one:∀{v:Value},plain v=true→Oy P G W ι m [v] m [v]:=fun{v} hp=>⟨ι,F,Grow.refl _ _,p,BF.cons (Az.plain hp) BF.nil⟩
  unfold DataW.trod at h;unfold Uh at o;cases hu:P.underlying t with
  |none=>rw[hu] at h;simp at h
  |some u =>
   rw[hu] at h o;cases u with
   |bool =>
    match cs,h with
    |[.bool b],h =>
     simp only[Option.some.injEq,Prod.mk.injEq] at h;obtain⟨rfl,rfl⟩:=h;simp only[Option.some.injEq,Prod.mk.injEq] at o;obtain⟨rfl,rfl⟩:=o;exact one rfl
   |int k =>
    match cs,h with
    |[.int k' n],h =>
     simp only at h;split at h
     ·rename_i hc
      obtain⟨rfl,_⟩:=hc;simp only[Option.some.injEq,Prod.mk.injEq] at h;obtain⟨rfl,rfl⟩:=h;simp only[Option.some.injEq,Prod.mk.injEq] at o;obtain⟨rfl,rfl⟩:=o;exact one rfl
     ·cases h
   |string =>
    match cs,h with
    |[.string s],h =>
     simp only at h;split at h
     ·simp only[Option.some.injEq,Prod.mk.injEq] at h
      obtain⟨rfl,rfl⟩:=h;simp only[Option.some.injEq,Prod.mk.injEq] at o;obtain⟨rfl,rfl⟩:=o;exact one rfl
     ·cases h
   |struct fs =>
    simp only at h;split at h
    ·rename_i I
     rw[ae] at h;obtain⟨xs,X,he⟩:=h;simp only[Prod.mk.injEq] at he;obtain⟨rfl,rfl⟩:=he;simp only at o;split at o
     ·rename_i J
      obtain⟨T,q2⟩:=mapM_some X;have Z:=UH cs fs.toList (fun U=>U.offset) (fun U=>P.cellsOf U.type) (by rw[I];exact J);have:=PI (W:=W) (P:=P) (G:=G) ((fs.toList.map (·.type)).zip (xs.map (·.1))) (fs.toList.map fun U=>(cs.drop U.offset).take (P.cellsOf U.type)) ι m m' l
       (by simp only[List.length_zip,List.length_map,T,Nat.min_self]) (fun i t' d' cs' N V ι m m' l F p o=>by
        rw[gM] at N;obtain⟨r3,r4⟩:=N;rw[ax,ae] at V r3 r4;obtain⟨U,s1,rfl⟩:=V;obtain⟨fd',s2,rfl⟩:=r3;obtain⟨x,s3,rfl⟩:=r4;rw[s1] at s2;cases s2;obtain⟨b,M,C⟩:=q2 i U s1;rw[s3] at M;cases M;exact ih _ _ x.1 x.2 C ι m m' l F p o) F p o
      rw[Z] at this;exact this
     ·cases o
    ·cases h
   |array n e =>
    simp only at h;split at h
    ·rename_i I
     rw[ae] at h;obtain⟨xs,X,he⟩:=h;simp only[Prod.mk.injEq] at he;obtain⟨rfl,rfl⟩:=he;simp only at o;split at o
     ·rename_i J
      obtain⟨T,q2⟩:=mapM_some X;have Z:=UH cs (List.range n) (fun i=>i*P.cellsOf e) (fun _=>P.cellsOf e) (by rw[I];exact J);have:=PI (W:=W) (P:=P) (G:=G) ((xs.map (·.1)).map fun x=>(e,x)) ((List.range n).map fun i=>(cs.drop (i*P.cellsOf e)).take (P.cellsOf e)) ι m m' l
       (by simp only[List.length_map,T]) (fun i t' d' cs' N V ι m m' l F p o=>by
        rw[ax,ax] at N;rw[ax,ae] at V;obtain⟨j,s1,rfl⟩:=V;simp only[Option.map_map,Option.map_eq_some_iff,Function.comp,Prod.mk.injEq] at N;obtain⟨x,s3,rfl,rfl⟩:=N;obtain⟨b,M,C⟩:=q2 i j s1;rw[s3] at M;cases M;exact ih _ _ x.1 x.2 C ι m m' l F p o) F p o
      rw[Z] at this;exact this
     ·cases o
    ·cases h
   |slice e =>
    match cs,h with
    |[.slice none 0 0],h =>
     simp only[Option.some.injEq,Prod.mk.injEq] at h;obtain⟨rfl,rfl⟩:=h;simp only[Option.some.injEq,Prod.mk.injEq] at o;obtain⟨rfl,rfl⟩:=o;exact one rfl
    |[.slice (some a) len cap],h =>
     simp only[if_true] at h;split at h
     ·rename_i hc
      rw[bb] at h;obtain⟨A,he,h⟩:=h;rw[ae] at h;obtain⟨rest,hr,hd⟩:=h;simp only[Prod.mk.injEq] at hd;obtain⟨rfl,rfl⟩:=hd;simp only at o;split at o
      ·cases o
      ·rename_i hsz
       obtain⟨T,q2⟩:=mapM_some he;obtain⟨N,V⟩:=mapM_some hr;rw[fq] at T N;have cell:∀i,i<cap→∃R,W.cells? 0 (a.add (i*P.cellsOf e)) (P.cellsOf e)=some R:=fun i hi=>by
        by_cases L:i<len
        ·obtain⟨b,_,C⟩:=q2 i i (cj L)
         rw[bb] at C;obtain⟨R,u3,_⟩:=C;exact⟨R,u3⟩
        ·obtain⟨b,_,C⟩:=V (i-len) (i-len) (cj (by omega))
         rw[bb] at C;obtain⟨R,u3,_⟩:=C;exact⟨R,by rw[← u3];congr 3;omega⟩
       split at o
       ·rename_i y
        simp only[Option.some.injEq,Prod.mk.injEq] at o;obtain⟨rfl,rfl⟩:=o;simp only[Bool.and_eq_true,List.isEmpty_iff,List.map_eq_nil_iff] at y;obtain⟨e1,e2⟩:=y;have hl0:len=0:=by rw[← T,e1];rfl
        have hc0:cap=0:=by
         have:cap-len=0:=by rw[← N,e2];rfl
         omega
        subst hl0;subst hc0;exact⟨ι,F,Grow.refl _ _,p,BF.cons (.slE _ _ _ _) BF.nil⟩
       ·rename_i y
        have K:0<cap:=by
         rcases bq cap with h|h
         ·exfalso
          subst h;have e1:A=[]:=aw.1 (by omega);have e2:rest=[]:=aw.1 (by omega);rw[e1,e2] at y;simp at y
         ·exact h
        have r:0<P.cellsOf e:=by omega
        obtain⟨ce0,d3e⟩:=cell 0 K;rw[ed,Addr.add_zero'] at d3e;obtain⟨l0,c0⟩:=cells?_some d3e;have g:=c0 0 r;rw[Addr.add_zero',ai (by omega:0<ce0.length)] at g;obtain⟨c,q,S⟩:=a;have Y:S=none:=by
         unfold World.cell? at g;cases S with
         |none=>rfl
         |some s=>split at g<;>simp at g
        subst Y;have w:∃z e' fr,W.heap[c]?=some (.cells z e' fr):=by
         unfold World.cell? at g;simp only at g;split at g
         ·rename_i z e' fr hh;exact⟨z,e',fr,hh⟩
         ·cases g
        obtain⟨z,e',fr,w⟩:=w;have B:∀k,k<cap*P.cellsOf e→∃v,z[q+k]?=some v:=fun k hk=>by
         have hi:k / P.cellsOf e<cap:=(Nat.div_lt_iff_lt_mul r).2 hk;obtain⟨R,hce⟩:=cell (k / P.cellsOf e) hi;obtain⟨l1,c1⟩:=cells?_some hce;have hm:k%P.cellsOf e<P.cellsOf e:=be _ r;have L:=c1 (k%P.cellsOf e) hm;rw[addr_add,addr_add,cell_of_row w,ai (by omega:k%P.cellsOf e<R.length)] at L;have e1:q+k / P.cellsOf e*P.cellsOf e+k%P.cellsOf e=q+k:=by
          have:=Nat.div_add_mod' k (P.cellsOf e);omega
         rw[e1] at L;exact⟨_,L⟩
        let E:List Value:=(List.range (len*P.cellsOf e)).map fun k=>z.getD (q+k) undef
        have hrl:E.length=len*P.cellsOf e:=by simp[E]
        have hlc:len*P.cellsOf e≤cap*P.cellsOf e:=bk _ hc.2.1;have rowAt:∀k,k<len*P.cellsOf e→E[k]?=z[q+k]?:=fun k hk=>by
         obtain⟨v,hv⟩:=B k (by omega);show((List.range (len*P.cellsOf e)).map fun k=>z.getD (q+k) undef)[k]?=_;rw[ax,cj hk,hv];simp[hv]
        split at o
        ·rename_i l1 m1 habs
         simp only[Option.some.injEq,Prod.mk.injEq] at o;obtain⟨rfl,rfl⟩:=o;have hop:=PI (W:=W) (P:=P) (G:=G) ((A.map (·.1)).map fun x=>(e,x)) ((List.range len).map fun i=>(E.drop (i*P.cellsOf e)).take (P.cellsOf e)) ι m m1 l1
          (by simp only[List.length_map,T,List.length_range]) (fun i t' d' cs' M C ι m m' l F p o=>by
           rw[ax,ax] at M;rw[ax,ae] at C;obtain⟨j,s1,rfl⟩:=C;simp only[Option.map_map,Option.map_eq_some_iff,Function.comp,Prod.mk.injEq] at M;obtain⟨x,s3,rfl,rfl⟩:=M;have Q:i<len:=by
            rcases aq i len with h|h
            ·exact h
            ·rw[aR (by simpa using h)] at s1;cases s1
           rw[cj Q] at s1;cases s1;obtain⟨b,w1,w2⟩:=q2 i i (cj Q);rw[s3] at w1;cases w1;rw[bb] at w2;obtain⟨R,w3,w4⟩:=w2;obtain⟨l2,c2⟩:=cells?_some w3;have hce:R=(E.drop (i*P.cellsOf e)).take (P.cellsOf e):=by
            apply bo;intro j;by_cases hj:j<P.cellsOf e
            ·have L:=c2 j hj
             rw[addr_add,addr_add,cell_of_row w] at L;rw[← L,eZ,if_pos hj,gx,rowAt _ (by
              have:(i+1)*P.cellsOf e≤len*P.cellsOf e:=bk _ (by omega);rw[fW] at this;omega)]
             congr 1;omega
            ·rw[aR (by omega),eZ,if_neg hj]
           rw[← hce];exact ih _ _ x.1 x.2 w4 ι m m' l F p o) F p habs
         rw[oQ _ _ _ hrl] at hop;obtain⟨ι1,o1,o2,o3,o4⟩:=hop;obtain⟨ι2,p1,p2,p3,p4⟩:=a4f (e:=e) (sh:=q) (vs:=l1) o1 o3 w (fun i hi=>by
          obtain⟨v',L,h2⟩:=o4.get (ai hi);refine⟨v',?_,by rw[getD_lt hi];exact h2⟩;have Q:i<len*P.cellsOf e:=by rw[← hrl,← o4.1];exact hi
          rw[← rowAt i Q];exact L)
         refine⟨ι2,p1,o2.trans p3,p4,BF.cons ?_ BF.nil⟩;rw[show(A.map (·.1)).length=len from by rw[aL,T]];refine .sl _ _ _ _ _ _ ⟨_,p2,ao _,?_,fun _=>⟨rfl,rfl,.inr ⟨(cG q).symm,?_⟩⟩⟩
         ·exact hc.2.1
         ·simp only
          obtain⟨v,hv⟩:=B (cap*P.cellsOf e-1) (by
           have:0<cap*P.cellsOf e:=dy K r;omega)
          have:=(al.1 hv).1;have hp:0<cap*P.cellsOf e:=dy K r;omega
        ·cases o
     ·cases h
   |_=>simp at o
end
section
variable {P:Program}{G:List Nat}
theorem TK{g e:TypeId→DataW H→Mem→Option (List Value×Mem)}(c:∀t d m r,g t d m=some r→e t d m=some r) :
 ∀(xs:List (TypeId×DataW H)) (m:Mem) (r:List Value×Mem),Yr g xs m=some r→Yr e xs m=some r
 |[],m,r,h=>h
 |(t,d)::xs,m,r,h=>by
  simp only[Yr] at h ⊢;cases h1:g t d m with
  |none=>grind
  |some a =>
   rw[h1] at h;rw[c _ _ _ _ h1];simp only at h ⊢;cases h2:Yr g xs a.2 with
   |none=>grind
   |some b =>
    rw[h2] at h;rw[TK c xs _ _ h2];exact h
theorem nU{H:Type}:∀(f:Nat) (t:TypeId) (d:DataW H) (m:Mem) (r:List Value×Mem),Uh P f t d m=some r→Uh P (f+1) t d m=some r
 |0,_,_,_,_,h=>by cases h
 |f+1,t,d,m,r,h=>by
  have a:=fun t d m r=>nU (H:=H) f t d m r
  unfold Uh at h ⊢;split at h
  all_goals try exact h
  all_goals try(cases h)
  all_goals split at h
  all_goals try(cases h)
  all_goals rename_i b
  ·simp only[if_neg b]
   split at h
   ·grind
   ·rename_i e
    simp only[if_neg e];split at h
    ·rename_i l m1 c
     rw[TK a _ _ _ c];exact h
    grind
  ·simp only[if_pos b];exact TK a _ _ _ h
  ·simp only[if_pos b];exact TK a _ _ _ h
theorem a5p{d:DataW H}(a:f≤g)(h:Uh P f t d m=some r):Uh P g t d m=some r:=by
 induction a with
 |refl=>exact h
 |step _ b=>exact nU _ _ _ _ _ b
theorem b1b{d:DataW H}(h:DataW.Trod enc P W 0 (fun _=>true) a t v d ps)
     (c:DR P G ι m W) (b:SH m) (g:Uh P F t d m=some (l,m')):Oy P G W ι m l m' v.cells.toList:=by
 obtain⟨f,e⟩:=h;exact jA (max f F) t _ d ps (DataW.trod_le (Nat.le_max_left _ _) e) ι m m' l c b (a5p (Nat.le_max_right _ _) g)
def yC(P:Program)(t:TypeId)(l:List Value):Option Value :=
 match P.underlying t,l with
 |some (.struct _),l=>some (.agg ⟨l⟩)
 |some (.array _ _),l=>some (.agg ⟨l⟩)
 |some .bool,[v]|some (.int _),[v]|some .string,[v]|some (.slice _),[v]=>some v
 |_,_=>none
def Xm{H:Type}(P:Program)(F:Nat):List TypeId→List (DataW H)→Mem→Option (List Value×Mem)
 |[],[],m=>some ([],m)
 |t::ts,d::ds,m=>match Uh P F t d m with
  |some (l,m1)=>match yC P t l with
   |some v=>match Xm P F ts ds m1 with
    |some (r,m2)=>some (v::r,m2)
    |none=>none
   |none=>none
  |none=>none
 |_,_,_=>none
theorem b5n(b:Value.okWide P W r b0 t v)(d:yC P t l=some x)
 (a:BF ι g l v.cells.toList):Az ι g x v:=by
 unfold yC at d;split at d
 ·rename_i c
  cases d;simp only[Value.okWide,c] at b;obtain⟨⟨f⟩,rfl,-⟩:=b;exact .agg _ _ a.1 a.2
 ·rename_i c
  cases d;simp only[Value.okWide,c] at b;obtain⟨⟨f⟩,rfl,-⟩:=b;exact .agg _ _ a.1 a.2
 all_goals first
  |(rename_i c
    cases d;simp only[Value.okWide,c,Cell.okWide] at b;have e:v.cells=#[v]:=by cases v<;>simp_all [Cell.ok,Value.cells]
    rw[e] at a;have:=a.2 0 (by simp);simpa using this)
  |grind
theorem Ye:∀(a:List TypeId) (vs:List Value) (ds:List (DataW H)) (ps:List MemPlace),
 DataW.TrodAll enc P W 0 (fun _=>true) b a vs ds ps→(∀(j:Nat) t v,a[j]?=some t→vs[j]?=some v→Value.okWide P W r b0 t v) →
 ∀(ι:BJ) (m m':Mem) (Bo:List Value),DR P G ι m W→SH m→Xm P F a ds m=some (Bo,m')→Oy P G W ι m Bo m' vs
 |[],[],[],ps,h,hv,ι,m,m',Bo,hs,hro,ha=>by
  cases ha;exact⟨ι,hs,Grow.refl _ _,hro,BF.nil⟩
 |t::a,v::vs,d::ds,ps,h,hv,ι,m,m',Bo,hs,hro,ha=>by
  obtain⟨p,q,A,z,-⟩:=h;simp only[Xm] at ha;split at ha
  ·rename_i l m1 E
   split at ha
   ·rename_i x C
    split at ha
    ·rename_i g m2 B
     cases ha;obtain⟨e,w,u,s,o⟩:=b1b A hs hro E;obtain⟨c,n,f,k,i⟩:=Ye a vs ds q z (fun j t v I y=>hv (j+1) t v (by grind) (by grind)) e m1 _ g w s B;exact⟨c,n,u.trans f,k,BF.cons ((b5n (hv 0 t v rfl rfl) C o).mono f.le) i⟩
    grind
   grind
  grind
 |[],[],_::_,ps,h,_,_,_,_,_,_,_,_=>h.elim
 |[],_::_,_,ps,h,_,_,_,_,_,_,_,_=>h.elim
 |_::_,[],_,ps,h,_,_,_,_,_,_,_,_=>h.elim
 |_::_,_::_,[],ps,h,_,_,_,_,_,_,_,_=>h.elim
def allocs(m:Mem):List G8→Mem
 |[]=>m
 |b::r=>allocs (m.alloc b) r
theorem Si:∀(l:List G8) (m:Mem),(allocs m l).size=m.size+l.length
 |[],m=>rfl
 |b::r,m=>by rw[allocs,Si r];simp[Mem.alloc];omega
theorem Vp:∀(l:List G8) (m:Mem) (b:Nat),(allocs m l).get b=if b<m.size then m.get b else match l[b-m.size]? with|some x=>x|none=>m.get b
 |[],m,b=>by simp[allocs]
 |x::r,m,b=>by
  rw[allocs,Vp r,dZ];have a:(m.alloc x).size=m.size+1:=rfl;grind
def empty:Mem:=⟨.leaf,0,0⟩
def absP(P:Program)(F:Nat)(t:TypeId)(d:DataW Unit):Option (List Value) :=
 match Uh P F t d empty with
 |some (l,_)=>if l.all plainCell then some l else none
 |none=>none
def d0d(P:Program)(t:TypeId):TypeId:=match P.underlying t with|some (.array _ e)=>e|_=>t
def IC(P:Program)(F:Nat)(laid:List (String×DataW Unit))(k:Nat):Option (TypeId×List Value) :=
 match laid.find? (fun x=>P.globalNamed x.1==some k),P.globals[k]? with
 |some x,some g=>(absP P F g.type x.2).map fun l=>(d0d P g.type,l)
 |_,_=>none
def AX(P:Program)(F:Nat)(laid:List (String×DataW Unit)):Mem :=
 allocs empty ((List.range P.globals.size).map fun k=>match IC P F laid k with
  |some (e,l)=>.cells l e 0 true
  |none=>.cells [] 0 0 true)
def Au(P:Program)(F:Nat)(laid:List (String×DataW Unit)):List Nat:=(List.range P.globals.size).filter fun k=>(IC P F laid k).isSome
theorem a6f:∀{laid:List (String×DataW Unit)} {ps:List MemPlace},DataW.LaidVars P W laid ps→∀x∈laid,∃g t cs fuel p,P.globalNamed x.1=some g∧(P.globals[g]?).map (·.type)=some t ∧
 W.var? P x.1=some cs∧DataW.trod (fun _=>()) P W 0 (fun _=>true) false fuel t cs.toList=some (x.2,p)
 |[],_,_,x,hx=>by grind
 |(n,d)::r,ps,h,x,hx=>by
  obtain⟨g,t,cs,fuel,p,q,f,e,c,b,a,-⟩:=h;rcases bd.1 hx with rfl|hx
  ·grind
  ·exact a6f a x hx
theorem b8z(W:World):DR P [] (fun _=>none) empty W :=
 ⟨fun _ _ h=>(by cases h),fun _ _ h=>(by cases h),fun _ _ _ _ h=>(by cases h),fun _ h=>(by cases h)⟩
theorem jg(j:laidMet P laid W)(f:IC P F laid k=some (e,l)) :
 l.all plainCell=true∧∃cs e' H,W.heap[k]?=some (.cells cs e' H)∧cs.toList=l:=by
 obtain⟨K,j,-⟩:=j;unfold IC at f;split at f
 ·rename_i x g w T
  rw[ae] at f;obtain⟨S,a,m⟩:=f;cases m;have c:=List.mem_of_find?_eq_some w;have z:P.globalNamed x.1=some k:=by grind
  obtain⟨E,t,cs,d,p,n,J,u,s⟩:=a6f j x c;obtain rfl:E=k:=cr (n.symm.trans z);have y:t=g.type:=by grind
  subst y;unfold absP at a;split at a
  ·rename_i R Q C
   split at a
   ·rename_i q
    cases a;obtain⟨r,N,M,L,o⟩:=jA (G:=[]) (max d F) _ _ _ _ (DataW.trod_le (Nat.le_max_left _ _) s) (fun _=>none) empty _ _ (b8z W) (fun b B=>by cases B) (a5p (Nat.le_max_right _ _) C);refine⟨q,?_⟩;have A:cs.toList=l:=by
     apply bo;intro i;by_cases h:i<l.length
     ·obtain⟨I,a,m⟩:=o.get (ai h)
      rw[a,ai h,m.Eh (aE.1 q _ (cR h))]
     ·rw[aR (by have:=o.1;omega),aR (by omega)]
    simp only[World.var?,n,Option.bind_some] at u;grind
   grind
  grind
 grind
theorem oC(x:laidMet P laid W):∃ι,DR P (Au P F laid) ι (AX P F laid) W∧SH (AX P F laid):=by
 have f:(AX P F laid).size=P.globals.size:=by rw[AX,Si];simp[empty]
 have hget:∀k,k<P.globals.size→(AX P F laid).get k=match IC P F laid k with|some (e,l)=>.cells l e 0 true|none=>.cells [] 0 0 true:=fun k n=>by
  rw[AX,Vp,if_neg (by simp[empty])];simp only[empty,Nat.sub_zero,List.getElem?_map,List.getElem?_range n,Option.map_some]
 have j:SH (AX P F laid):=fun b A=>by
  have h:=hget b (f▸A);split at h<;>exact Mem.Qz h
 let ι:BJ:=fun k=>match IC P F laid k,W.heap[k]? with
  |some (e,l),some (.cells c _ _)=>if k<P.globals.size then some ⟨k,0,c.size,P.cellsOf e⟩ else none
  |_,_=>none
 have q:∀k a,ι k=some a→k<P.globals.size∧∃e l c u s,IC P F laid k=some (e,l)∧W.heap[k]?=some (.cells c u s)∧a=⟨k,0,c.size,P.cellsOf e⟩:=fun k a h=>by
  grind
 refine⟨ι,⟨fun k a h=>?_,fun k a h=>?_,fun k J a y h K _=>?_,fun k n=>?_⟩,j⟩
 ·grind
 ·obtain⟨p,e,l,c,u,s,o,m,rfl⟩:=q k a h
  have d:=hget k p;rw[o] at d;obtain⟨w,H,E,C,r,B⟩:=jg x o;rw[m] at r;cases r;simp only[d,m];refine⟨fun h=>(by cases h),rfl,rfl,fun i z=>?_,fun h=>(by cases h)⟩;refine⟨l.getD i undef,?_,Az.plainCell (aE.1 w _ (getD_mem z))⟩;grind
 ·grind
 ·simp only[Au,List.mem_filter,List.mem_range] at n
  obtain⟨p,o⟩:=n;obtain⟨⟨e,l⟩,m⟩:=gR.1 o;obtain⟨w,c,u,s,r,B⟩:=jg x m;refine⟨⟨k,0,c.size,P.cellsOf e⟩,?_,rfl,⟨rfl,fun I E g ro d=>?_⟩,?_,j k (f▸p)⟩
  ·grind
  ·grind
  ·have d:=hget k p
   rw[m] at d;simp only[Mem.gen,d,G8.gen]
end
section
variable {P:Program}{G:List Nat}{O:BG}
def Ev{α β:Type}(F:Nat→Nat→Option (α×β))(Q:α→β→Prop):Prop:=∃a b,(∃K,∀N D,K≤N→K≤D→F N D=some (a,b))∧Q a b
def Gq(P:Program)(O:BG)(G:List Nat)(f:FuncId)(Bo:List Value)(m:Mem)(Q:Value→Mem→Prop):Prop :=
 Ev (fun N D=>Ei P O G N D f Bo m) Q
def Om(P:Program)(O:BG)(G:List Nat)(c:Code)(s:St)(Q:BP→St→Prop):Prop :=
 Ev (fun N D=>BO P (Ei P O G N D) N c s) Q
def GX(P:Program)(O:BG)(G:List Nat)(o:Oper)(s:St)(Q:Value→Mem→Prop):Prop :=
 Ev (fun N D=>BX P (Ei P O G N D) (ev s.t) o s.m) Q
theorem Ev.mono{Q R:α→β→Prop}(h:Ev F Q)(c:∀a b,Q a b→R a b):Ev F R:=by
 obtain⟨a,b,h,q⟩:=h;exact⟨a,b,h,c _ _ q⟩
theorem Ev.now{a:α}{b:β}(h:∀N D,F N D=some (a,b))(q:Q a b):Ev F Q:=⟨a,b,⟨0,fun N D _ _=>h N D⟩,q⟩
theorem Om.seq(g:Om P O G a s fun e s'=>match e with| .normal=>Om P O G b s' Q|e=>Q e s'):Om P O G (.seq a b) s Q:=by
 obtain⟨e,s',⟨K,h⟩,q⟩:=g;cases e with
 |normal =>
  obtain⟨j,s2,⟨k,l⟩,f⟩:=q;refine⟨j,s2,⟨max K k,fun N D c d=>?_⟩,f⟩;have:=h N D (by omega) (by omega);simp only[BO,this];grind
 |ret=>exact⟨_,s',⟨K,fun N D c d=>by simp only[BO,h N D c d]⟩,q⟩
 |exit i=>exact⟨_,s',⟨K,fun N D c d=>by simp only[BO,h N D c d]⟩,q⟩
theorem Om.skip(h:Q .normal s):Om P O G .skip s Q:=Ev.now (fun _ _=>rfl) h
theorem Om.ret(h:Q .ret s):Om P O G .ret s Q:=Ev.now (fun _ _=>rfl) h
theorem Om.exit{id:Nat}(h:Q (.exit id) s):Om P O G (.exit id) s Q:=Ev.now (fun _ _=>rfl) h
theorem Om.cond(t:Bool)(f:ev s.t c=.bool t)(g:t=true→Om P O G a s Q)(i:t=false→Om P O G b s Q) :
 Om P O G (.cond c a b) s Q:=by
 cases t
 ·obtain⟨e,d,⟨K,h⟩,q⟩:=i rfl
  exact⟨e,d,⟨K,fun N D j k=>by simp only[BO,f];grind⟩,q⟩
 ·obtain⟨e,d,⟨K,h⟩,q⟩:=g rfl
  exact⟨e,d,⟨K,fun N D j k=>by simp only[BO,f];grind⟩,q⟩
theorem Om.block{id:Nat}(h:Om P O G b s fun e s'=>match e with| .exit i=>if i=id then Q .normal s' else Q (.exit i) s'|e=>Q e s'):Om P O G (.block id b) s Q:=by
 obtain⟨e,s',⟨K,h⟩,q⟩:=h;cases e with
 |normal=>exact⟨_,s',⟨K,fun N D a c=>by simp only[BO,h N D a c]⟩,q⟩
 |ret=>exact⟨_,s',⟨K,fun N D a c=>by simp only[BO,h N D a c]⟩,q⟩
 |exit i =>
  simp only at q;split at q
  ·rename_i d
   exact⟨_,s',⟨K,fun N D a c=>by simp only[BO,h N D a c,if_pos d]⟩,q⟩
  ·rename_i d
   exact⟨_,s',⟨K,fun N D a c=>by simp only[BO,h N D a c,if_neg d]⟩,q⟩
theorem Om.loop(I:Nat→St→Prop)(n:Nat)(w:I n s)
 (a:∀n s,I n s→Om P O G b s fun e s'=>match e with| .normal=>∃c,c<n∧I c s'|e=>Q e s'):Om P O G (.loop b) s Q:=by
 have d:∀n s,I n s→∃e s',(∃K,∀N D k,K≤N→K≤D→K≤k→iterate (BO P (Ei P O G N D) N b) k s=some (e,s'))∧Q e s':=by
  intro n
  induction n using Nat.strongRecOn with
  |_ n p =>
   intro s u;obtain⟨e,s',⟨K,h⟩,q⟩:=a n s u;cases e with
   |normal =>
    obtain⟨c,r,g⟩:=q;obtain⟨x,s2,⟨y,z⟩,o⟩:=p c r s' g;refine⟨x,s2,⟨max K y+1,fun N D k f l m=>?_⟩,o⟩;obtain⟨k,rfl⟩:∃j,k=j+1:=⟨k-1,by omega⟩
    simp only[iterate,h N D (by omega) (by omega)];grind
   |ret =>
    refine⟨_,s',⟨K+1,fun N D k f l m=>?_⟩,q⟩;obtain⟨k,rfl⟩:∃j,k=j+1:=⟨k-1,by omega⟩
    simp only[iterate,h N D (by omega) (by omega)]
   |exit i =>
    refine⟨_,s',⟨K+1,fun N D k f l m=>?_⟩,q⟩;obtain⟨k,rfl⟩:∃j,k=j+1:=⟨k-1,by omega⟩
    simp only[iterate,h N D (by omega) (by omega)]
 obtain⟨e,s',⟨K,h⟩,q⟩:=d n s w;exact⟨e,s',⟨K,fun N D f l=>by simp only[BO];grind⟩,q⟩
def VR(P:Program)(O:BG)(G:List Nat)(ops:Array Oper)(l:List Oper)(s:St)(Q:St→Prop):Prop :=
 ∃s',(∃K,∀N D,K≤N→K≤D→Jt P (Ei P O G N D) ops l s=some s')∧Q s'
def JG(P:Program)(O:BG)(G:List Nat)(ops:Array Oper)(i:Nat)(l:List Oper)(s:St)(Q:St→Prop):Prop :=
 ∃s',(∃K,∀N D,K≤N→K≤D→I9 P (Ei P O G N D) ops i l s=some s')∧Q s'
theorem Om.region{id:Nat}(h:VR P O G ops ops.toList s (Q .normal)):Om P O G (.region id ops false) s Q:=by
 obtain⟨a,⟨K,h⟩,q⟩:=h;exact⟨_,a,⟨K,fun N D b c=>by simp only[BO,h N D b c,Option.map_some]⟩,q⟩
theorem si{id:Nat}(h:JG P O G ops 0 ops.toList s (Q .normal)):Om P O G (.region id ops true) s Q:=by
 obtain⟨a,⟨K,h⟩,q⟩:=h;exact⟨_,a,⟨K,fun N D b c=>by simp only[BO,h N D b c,Option.map_some]⟩,q⟩
theorem VR.nil(h:Q s):VR P O G ops [] s Q:=⟨_,⟨0,fun _ _ _ _=>rfl⟩,h⟩
theorem JG.nil(h:Q s):JG P O G ops i [] s Q:=⟨_,⟨0,fun _ _ _ _=>rfl⟩,h⟩
theorem VR.cons(b:Region.wanted o (EM ops s.t)=true)
 (h:GX P O G o s fun v m'=>VR P O G ops l { t:=IE s.t o.dst v,m:=m' } Q):VR P O G ops (o::l) s Q:=by
 obtain⟨v,m',⟨K,h⟩,a,⟨c,f⟩,q⟩:=h;refine⟨a,⟨max K c,fun N D d e=>?_⟩,q⟩;simp only[Jt,JC,b,if_true,uU,h N D (by omega) (by omega)];grind
theorem VR.skip(b:Region.wanted o (EM ops s.t)=false)
 (h:VR P O G ops l { t:=IE s.t o.dst undef,m:=s.m } Q):VR P O G ops (o::l) s Q:=by
 obtain⟨a,⟨c,f⟩,q⟩:=h;refine⟨a,⟨c,fun N D d e=>?_⟩,q⟩;simp only[Jt,JC,b];grind
def Mem.at(m:Mem)(k:Nat):Mem:={ m with low:=k }
@[simp] theorem Mem.d6t(m:Mem)(k b:Nat):(m.at k).get b=m.get b:=rfl
@[simp] theorem Mem.d4g(m:Mem)(k:Nat):(m.at k).size=m.size:=rfl
@[simp] theorem Mem.b3h(m:Mem)(k:Nat):(m.at k).low=k:=rfl
@[simp] theorem Mem.at_at(m:Mem)(k j:Nat):(m.at k).at j=m.at j:=rfl
theorem JG.cons(d:Region.wanted o (EM ops s.t)=true)
 (h:GX P O G o { t:=s.t,m:=s.m.at s.m.size } fun v m'=>(barrier P ops i=true∨s.m.size≤m'.low∨(rG P ops i=true∧Q8 ops i s.t=true)∨(Ru P ops i=true∧NP ops i s.t s.m m'=true))∧JG P O G ops (i+1) l { t:=IE s.t o.dst v,m:=m'.at (min s.m.low m'.low) } Q) :
 JG P O G ops i (o::l) s Q:=by
 obtain⟨v,m',⟨K,h⟩,g,c,⟨f,e⟩,q⟩:=h;refine⟨c,⟨max K f,fun N D j k=>?_⟩,q⟩;have b:=h N D (by omega) (by omega);simp only[Mem.at] at b;have a:(barrier P ops i||decide (s.m.size≤m'.low)||(rG P ops i&&Q8 ops i s.t)||(Ru P ops i&&NP ops i s.t s.m m'))=true:=by
  grind
 simp only[I9,NG,JC,d,if_true,uU,b,a];exact e N D (by omega) (by omega)
theorem JG.skip(c:Region.wanted o (EM ops s.t)=false)
 (h:JG P O G ops (i+1) l { t:=IE s.t o.dst undef,m:=s.m.at (min s.m.low s.m.size) } Q):JG P O G ops i (o::l) s Q:=by
 obtain⟨b,⟨e,d⟩,q⟩:=h;refine⟨b,⟨e,fun N D f g=>?_⟩,q⟩;have a:(barrier P ops i||decide (s.m.size≤s.m.size)||(rG P ops i&&Q8 ops i s.t)||(Ru P ops i&&NP ops i s.t s.m { s.m with low:=s.m.size }))=true:=by simp
 simp only[I9,NG,JC,c];simp only[Bool.false_eq_true,if_false,a,if_true];exact d N D (by omega) (by omega)
theorem GX.op(a:∀call,BX P call (ev s.t) o s.m=some (v,m'))(q:Q v m'):GX P O G o s Q:=Ev.now (fun _ _=>a _) q
theorem GX.call(b:∀call:E8,BX P call (ev s.t) o s.m=call f Bo s.m)(h:Gq P O G f Bo s.m Q):GX P O G o s Q:=by
 obtain⟨v,a,⟨K,h⟩,q⟩:=h;exact⟨v,a,⟨K,fun N D c d=>(b _).trans (h N D c d)⟩,q⟩
theorem Gq.enter(d:O f=none)(k:P.funcs[f]?=some fn)(l:fn.body=some c)(a:IV G fn c=true)(g:Bo.length≤fn.ntmps)
 (h:Om P O G c { t:=tmpsOf 0 Bo .leaf,m:=m } fun e s=>match e with| .exit _=>False|_=>∃v,FM P fn s=some v∧Q v s.m):Gq P O G f Bo m Q:=by
 obtain⟨e,s,⟨K,h⟩,q⟩:=h;have:∃v,FM P fn s=some v∧Q v s.m∧(e=.normal∨e=.ret):=by
  cases e with
  |normal=>grind
  |ret=>grind
  |exit i=>grind
 obtain⟨v,p,o,n⟩:=this;refine⟨v,s.m,⟨K+1,fun N D r u=>?_⟩,o⟩;obtain⟨D,rfl⟩:∃j,D=j+1:=⟨D-1,by omega⟩
 have b:=h N D (by omega) (by omega);rcases n with rfl|rfl<;>simp only[Ei,d,Option.bind_none,k,l,a,decide_eq_true g,Bool.and_self,if_true,b,p,Option.map_some]
theorem lz(a:O f=some F)(h:F Bo m=some (v,m'))(q:Q v m'):Gq P O G f Bo m Q:=by
 refine⟨v,m',⟨1,fun N D b c=>?_⟩,q⟩;obtain⟨D,rfl⟩:∃j,D=j+1:=⟨D-1,by omega⟩
 simp only[Ei,a,Option.bind_some,h]
structure Fr(m m':Mem):Prop where
 size:m.size≤m'.size
 get:∀b,b<m.size→m'.get b=m.get b
 low:min m.low m.size≤m'.low
end
end Go.Am
