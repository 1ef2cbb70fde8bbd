/-
  Texts of a proof, merged (AmD). Conditions: in each statement.
-/
import Derived.RangeFuncLeaves
import GoSem.ClaimChange
import Derived.ProofKit
import Derived.Below
import Derived.WideShapes
import Derived.ChangeMaps5
import GoSem.ClaimJoined
import Derived.Test.YtnjkoebfgcbbdaaGreatDoorKPc
set_option linter.unusedSimpArgs false
set_option linter.unusedVariables false
set_option linter.unusedSectionVars false
set_option maxRecDepth 100000
set_option maxHeartbeats 8000000
abbrev aM:=@List.length_map
abbrev bp:=@Nat.eq_zero_or_pos
abbrev bO:=@List.mem_cons_self
abbrev cM:=@Array.getD_eq_getD_getElem?
abbrev dC:=@Nat.mul_pos
abbrev ez:=@Eq.trans
abbrev eV:=@List.length_range
abbrev fp:=@List.map_map
abbrev fR:=@List.map_congr_left
abbrev fW:=@Array.getElem?_append_right
abbrev gj:=@Array.mapM_eq_mapM_toList
abbrev gk:=@List.getElem?_zip_eq_some
abbrev gL:=@List.range_succ_eq_map
abbrev gP:=@Array.getElem?_toList
namespace Go.Am
section
variable {P:Program}{G:List Nat}{ds:List Deferred}{rf:Option Nat}{nn:Nat}
theorem YH{call:EO}(a:Dc call){ops:Array Oper}:∀(l:List Oper) (s s':St),Jc P call ops l s=some s'→AP s.m s'.m
 |[],s,s',h=>by cases h;exact AP.refl _
 |o::l,s,s',h=>by
  simp only[Jc] at h;cases h1:Jv P call ops o s with
  |none=>grind
  |some s1 =>
   rw[h1] at h;refine AP.trans ?_ (YH a l s1 s' h);unfold Jv at h1;split at h1
   ·unfold su at h1
    split at h1
    ·rename_i v m b;cases h1;exact JR a b
    grind
   ·cases h1;exact AP.refl _
theorem XU{call:EO}(e:Dc call){ops:Array Oper}:∀(l:List Oper) (i:Nat) (s s':St),IC P call ops i l s=some s'→AP s.m s'.m
 |[],i,s,s',h=>by cases h;exact AP.refl _
 |o::l,i,s,s',h=>by
  simp only[IC] at h;cases h1:MS P call ops i o s with
  |none=>grind
  |some s1 =>
   rw[h1] at h;refine AP.trans ?_ (XU e l (i+1) s1 s' h);rcases GY h1 with⟨_,_,x,d,f,_⟩|⟨_,v,n,g,_,d,_⟩
   ·rw[d];exact⟨ab _,f,fun _ _ _=>rfl,fun _ _ _=>rfl,fun _ _=>rfl⟩
   ·have c:=JR e g
    rw[d];exact⟨c.size,cd _ _,fun b a k=>c.keep b a (ag k (ck _ _)),fun b a j=>c.ro b a j,fun b a=>c.ro' b a⟩
theorem Qy{n:Nat}{f c:St→Option (BH×St)}{ask:Mem→Prop}{t:Tr Value}{ps:List Tmp}(e:∀s s' x,f s=some (x,s')→AP s.m s'.m)(a:∀s s' x,c s=some (x,s')→AP s.m s'.m) :
 ∀(rows:List (List Value)) (m m':Mem) (x:BH),DY n f c ask t ps rows m=some (x,m')→AP m m'
 |[],m,m',x,h=>by
  simp only[DY,Option.some.injEq,Prod.mk.injEq] at h;rw[h.2];exact AP.refl _
 |vs::rest,m,m',x,h=>by
  obtain⟨_,_,s1,o,p,s2,l,k⟩:=I9 h;have d:=(e _ _ _ o).trans (a _ _ _ l);have j:AP m (Jy s2.m (min m.low s2.m.low)):=⟨d.size,cd _ _,fun b a i=>d.keep b a (ag i (ck _ _)),fun b a g=>d.ro b a g,fun b a=>d.ro' b a⟩
  rcases k with⟨_,_,q⟩|⟨_,_,q⟩
  ·exact j.trans (Qy e a rest _ _ _ q)
  grind
theorem fU{call:EO}(w:Dc call){N:Nat}:∀(c:Code) (s s':St) (x:BH),BJ P call N c s=some (x,s')→AP s.m s'.m:=by
 intro c
 induction c with
 |skip=>intro s s' x h;cases h;exact AP.refl _
 |label l=>intro s s' x h;cases h;exact AP.refl _
 |ret=>intro s s' x h;cases h;exact AP.refl _
 |exit id=>intro s s' x h;cases h;exact AP.refl _
 |goto l=>intro s s' x h;cases h
 |scope b _=>intro s s' x h;cases h
 |refuse y=>intro s s' x h;cases h
 |rangeFunc f F y z p o =>
  intro s s' x h;simp only[BJ] at h;split at h
  case h_2=>cases h
  split at h
  case h_2=>cases h
  split at h
  case isFalse=>cases h
  split at h
  case h_2=>cases h
  split at h
  case h_2=>cases h
  rw[ae] at h;obtain⟨⟨d,H⟩,i,j⟩:=h;cases j;exact Qy p o _ _ _ _ i
 |seq A E g e =>
  intro s s' x h;simp only[BJ] at h;cases a:BJ P call N A s with
  |none=>grind
  |some r =>
   obtain⟨d,s1⟩:=r;rw[a] at h;have:=g s s1 d a;cases d with
   |normal=>exact this.trans (e s1 s' x h)
   |ret=>grind
   |exit id=>grind
 |cond I A E g e =>
  intro s s' x h;simp only[BJ] at h;grind
 |block id b u =>
  intro s s' x h;simp only[BJ] at h;grind
 |loop b u =>
  intro s s' x h;simp only[BJ] at h;have C:∀(k:Nat) (s s':St) (x:BH),iterate (BJ P call N b) k s=some (x,s')→AP s.m s'.m:=by
   intro k
   induction k with
   |zero=>intro s s' x h;cases h
   |succ k q =>
    intro s s' x h;simp only[iterate] at h;cases a:BJ P call N b s with
    |none=>grind
    |some r =>
     obtain⟨d,s1⟩:=r;rw[a] at h;have:=u s s1 d a;cases d with
     |normal=>exact this.trans (q s1 s' x h)
     |ret=>grind
     |exit id=>grind
  grind
 |region id B n =>
  intro s s' x h;cases n with
  |false =>
   simp only[BJ,Option.map_eq_some_iff] at h;obtain⟨s1,a,j⟩:=h;cases j;exact YH w _ _ _ a
  |true =>
   simp only[BJ,Option.map_eq_some_iff] at h;obtain⟨s1,a,j⟩:=h;cases j;exact XU w _ _ _ _ a
theorem Ho:∀(l:List Value) (k:Nat) (t:Tr Value) (i:Nat),Cm (tmpsOf k l t) i=if k≤i∧i<k+l.length then l.getD (i-k) undef else Cm t i
 |[],k,t,i=>by simp only[tmpsOf];grind
 |v::l,k,t,i=>by
  simp only[tmpsOf];rw[Ho l (k+1) (QO t k v) i,Dj];grind
def oZ(tmps:Array Value):ResultVar→Sem Value
 | .tmp t=>pure (tmps.getD t undef)
 | .cell a t=>do loadVar t (← asAddr (tmps.getD a undef))
theorem eY{ι:BG}{s:St}{n:Nat}{a:Act}{w:World}(b:Ea P G ds n s ι a w){r:ResultVar}{v:Value}(h:Kv P s r=some v) :
 ∃v',(oZ a.tmps r).run P w=.ok v' w∧Aw ι s.m.gen v v':=by
 cases r with
 |tmp t=>cases h;exact⟨_,rfl,b.2.val t⟩
 |cell c t =>
  simp only[Kv] at h;have d:=b.2.val c;cases hc:Cm s.t c<;>rw[hc] at h d<;>first|(cases h)|skip
  rename_i f;cases f with
  |none=>cases h
  |some f =>
   obtain⟨g,i,e⟩:∃g,a.tmps.getD c undef=.pointer (some g)∧Qe ι s.m.gen f g:=by
    generalize a.tmps.getD c undef=u at d;cases d;grind
   obtain⟨v',k,j⟩:=QC b.1 e h;exact⟨v',by simp only[oZ,i,asAddr,Sem.run_bind,Sem.run_pure,Result.andThen_ok];omega,j⟩
theorem TF{ι:BG}{s:St}{n:Nat}{a:Act}{w:World}(c:Ea P G ds n s ι a w):∀(rs:List ResultVar) (vs:List Value),Pn (Kv P s) rs=some vs →
 ∃b,(rs.mapM (oZ a.tmps)).run P w=.ok b w∧BA ι s.m.gen vs b
 |[],vs,h=>by cases h;exact⟨[],rfl,BA.nil⟩
 |r::rs,vs,h=>by
  simp only[Pn] at h;split at h
  ·rename_i v l j i
   cases h;obtain⟨d,o,f⟩:=eY c j;obtain⟨g,k,e⟩:=TF c rs l i;refine⟨d::g,?_,BA.cons f e⟩;simp_all
  grind
theorem P6{ι:BG}{s:St}{n:Nat}{a:Act}{w:World}{fn:Func}{v:Value}(g:Ea P G ds n s ι a w)(h:Fj P fn s=some v) :
 ∃v',(results fn a.tmps).run P w=.ok v' w∧Aw ι s.m.gen v v':=by
 have j:results fn a.tmps=(do let c ← fn.results.mapM (oZ a.tmps);pure (if h:c.size=1 then c[0] else .tuple c)):=by
  rfl
 unfold Fj at h;have run:∀c,Pn (Kv P s) fn.results.toList=some c→∃b:List Value,BA ι s.m.gen c b∧(results fn a.tmps).run P w=.ok (if h:b.toArray.size=1 then b.toArray[0] else .tuple b.toArray) w:=fun c f=>by
  obtain⟨b,d,k⟩:=TF g _ _ f;refine⟨b,k,?_⟩;rw[j,gj];simp_all
 split at h
 ·rename_i r i
  cases h;obtain⟨b,d,k⟩:=run _ i;obtain⟨v',o,rfl,u,q⟩:=d.H6;have:o=[]:=av.1 q.1.symm;grind
 ·rename_i c p i
  cases h;obtain⟨b,d,k⟩:=run _ i;have l:b.length≠1:=fun e=>by
   have:c.length=1:=d.1.trans e
   match c,this with
   |[x],_=>grind
  exact⟨.tuple b.toArray,by grind,.tuple c b d.1 d.2⟩
 grind
def XK(P:Program)(G:List Nat)(f:FuncId)(F:List Value→Mem→Option (Value×Mem)):Prop:=∀(fn:Func) (lb:List Value) (m m1:Mem) (v:Value) (rows:List (List Value)),P.funcs[f]?=some fn→F (Es fn.ntmps lb) m=some (v,m1)→O4 v=some rows →
 ∀(ι:BG) (w:World) (lb':Array Value),DF P G ι m w→BA ι m.gen lb lb'.toList→XV P f lb' rows (Jl P G (fun m'=>∃m1',F (Es fn.ntmps lb) m'=some (v,m1')) ι m.gen lb lb') w
theorem XK.b7e{f:FuncId}{F:List Value→Mem→Option (Value×Mem)}(h:∀Bh m v m',F Bh m=some (v,m')→O4 v=none):XK P G f F:=fun fn b m m1 v a _ d c=>by grind
theorem zI(n:Nat)(lb:List Value):Es n lb=Y5::(List.replicate n Y5++lb):=rfl
theorem XK.none{f:FuncId}{F:List Value→Mem→Option (Value×Mem)}(h:∀n lb m,F (Es n lb) m=none):XK P G f F:=fun fn lb m m1 v a _ b=>by grind
def Gh(P:Program)(G:List Nat)(O:BP):Prop:=∀f F,O f=some F→a2e P G f F∧(∀Bh m v m',F Bh m=some (v,m')→AP m m')∧Enters P f∧XK P G f F
theorem OY{O:BP}{N:Nat}(c:Gh P G O):∀D,Dc (Em P O G N D)
 |0=>fun f g m v e h=>by cases h
 |D+1=>fun f g m v e h=>by
  simp only[Em] at h;split at h
  ·rename_i r a
   rw[bb] at a;obtain⟨F,a,j⟩:=a;cases h;exact(c f F a).2.1 g m v e j
  ·split at h
   ·cases h
   ·split at h
    ·cases h
    ·split at h
     ·split at h
      ·rename_i i b
       rw[ae] at h;obtain⟨u,_,d⟩:=h;cases d;exact fU (OY c D) _ _ _ _ b
      ·rename_i i b
       rw[ae] at h;obtain⟨u,_,d⟩:=h;cases d;exact fU (OY c D) _ _ _ _ b
      grind
     grind
theorem OJ(n:Nat)(lb:List Value):n<(Es n lb).length:=by unfold Es;grind
theorem jE{O:BP}{N:Nat}(p:Gh P G O):∀D,fE P G (Em P O G N D)
 |0=>fun g fn c m m1 v a _ h=>by cases h
 |D+1=>fun g fn c m m1 v a e h n=>by
  have j:∀b,(O g).bind (fun F=>F (Es fn.ntmps c) b)=none→Em P O G N (D+1) g (Es fn.ntmps c) b=none:=fun b i=>by
   have:=OJ fn.ntmps c;simp only[Em,i,e];grind
  have d:∀b,Em P O G N (D+1) g (Es fn.ntmps c) b=(O g).bind (fun F=>F (Es fn.ntmps c) b):=fun b=>by
   cases i:(O g).bind (fun F=>F (Es fn.ntmps c) b) with
   |none=>grind
   |some r=>simp only[Em,i]
  rw[d] at h;rw[bb] at h;obtain⟨F,k,q⟩:=h;obtain⟨_,_,u,s⟩:=p g F k;refine⟨u,fun ι w f l o=>?_⟩;simp only[d,k,Option.bind_some];exact s fn c m m1 v a e q n ι w f l o
theorem sim_put'{ι:BG}{m:Mem}{W:World}{l:Nat}{ds:List Deferred}(c:DF P G ι m W)(h:W.heap[l]?=some (.deferred (some ds)))(x:Obj):DF P G ι m (W.putObj l x):=by
 have f:=grownBy_putObj' W l x;refine⟨fun b a d=>⟨(c.dom b a d).1,ag (c.dom b a d).2 f.size⟩,fun b a d=>?_,c.inj,c.glob⟩;rw[f.block a.blk (c.dom b a d).2 ?_];exact c.blk b a d;intro e;have i:a.blk=l:=by grind
 have g:=c.blk b a d;rw[i,h] at g;obtain⟨_,_,j⟩:=Oa g rfl;grind
theorem Marks.put{B:Nat}{w:World}{D:Nat}{x:Obj}:∀{ds:List Deferred},(∀a∈ds,a≠{ target:=.collected D,args:=#[] })→Marks B w ds→Marks B (w.putObj D x) ds
 |[],_,h=>by
  have:B≤w.heap.size:=h;simpa[Marks] using this
 |d::ds,hn,⟨⟨D',e,hBD,hD,hne⟩,hr⟩=>by
  refine⟨⟨D',e,hBD,?_,hne⟩,Marks.put (fun a b=>hn a (ao _ b)) hr⟩;rw[World.putObj_heap_other (fun c=>hn d (bO ..) (by grind))];omega
theorem Po{fn:Func}{tmps:Array Value}{R:Ending→World→Prop}{ι:BG}{m:Mem}{B:Nat}:∀(ds:List Deferred) (w:World),Marks B w ds→DF P G ι m w →
 (∀w',DF P G ι m w'→w.heap.size≤w'.heap.size→(∀c,c<B→w'.heap[c]?=w.heap[c]?)→w'.tape=w.tape→w'.os=w.os→w'.output=w.output→LeavesIn Fence.wide 0 P fn tmps R [] .returning w')→LeavesInM Fence.wide 0 P fn tmps R ds .returning w
 |[],w,_,hs,h=>h w hs (ab _) (fun _ _=>rfl) rfl rfl rfl
 |d::ds,w,⟨⟨D,e,hBD,hD,hne⟩,hr⟩,hs,h=>by
  refine⟨(by simp),.inl ⟨D,_,by rw[e],run_takeDeferred hD,?_⟩⟩;have a:∀c,c≠D→(w.putObj D (.deferred none)).heap[c]?=w.heap[c]?:=fun c b=>World.putObj_heap_other b
  refine Po ds _ ?_ ?_ fun w' k l j i g f=>h w' k (by simp_all) (fun c b=>(j c b).trans (a c (by omega))) i g f
  ·rw[e] at hne;exact Marks.put hne hr
  ·exact sim_put' hs hD _
theorem IU{O:BP}{N:Nat}(C:Gh P G O)(W:P.follows .mixedOrders=true):∀D,JM P G (Em P O G N D)
 |0=>fun f=>⟨(fun q m v H h=>by cases h),(fun q m r h=>by cases h)⟩
 |D+1=>fun f=>by
  have T:=OY (N:=N) C D;have hc:=IU (N:=N) C W D;refine⟨fun q m v H h ι w d Y g=>?_,fun q m r h=>?_⟩
  ·simp only[Em] at h
   split at h
   ·rename_i r l
    rw[bb] at l;obtain⟨F,l,M⟩:=l;cases h;exact(C f F l).1 q m v H M ι w d Y g
   ·split at h
    ·cases h
    ·rename_i fn y
     split at h
     ·cases h
     ·rename_i c hb
      split at h
      ·rename_i k
       simp only[Bool.and_eq_true,decide_eq_true_eq] at k;obtain⟨b,Z⟩:=k;unfold Ir at b;simp only[Bool.and_eq_true] at b;have R:d.size=q.length:=by have:=g.1;grind
       have K:Ea P G [] fn.ntmps { t:=tmpsOf 0 q .leaf,m:=m } ι { tmps:=d++Array.replicate (fn.ntmps-d.size) undef,defers:=[] } w:=by
        refine⟨Y,by grind,rfl,fun i=>?_⟩;rw[Ho];by_cases hi:i<q.length
        ·have U:=g.2 i hi
         have S:i<d.size:=by omega
         have e:(d++Array.replicate (fn.ntmps-d.size) undef).getD i undef=d.toList.getD i undef:=by
          rw[cM,cP S,getD_eq,gP]
         grind
        ·rw[if_neg (by omega)]
         have e1:Cm (.leaf:Tr Value) i=undef:=Tr.U9 _ _;have e2:(d++Array.replicate (fn.ntmps-d.size) undef).getD i undef=undef:=by
          rw[cM,fW (by omega)];grind
         rw[e1,e2];exact Aw.undef
       have X:∀(x:BH) (s:St),BJ P (Em P O G N D) N c { t:=tmpsOf 0 q .leaf,m:=m }=some (x,s)→(x=.normal∨x=.ret)→(Fj P fn s).map (fun v=>(v,s.m))=some (v,H) →
        Calls P f d w fun e w'=>∃o,e=.returned o∧Post P G ι m w v H o w':=fun x s hx J p=>by
        rw[ae] at p;obtain⟨v0,L,he⟩:=p;cases he;refine(callsIn_wide (n:=0)).1 (callsIn_of_wp_marks y hb trivial ?_);refine(wpIn_wide (n:=0)).2 ((wpIn_wide (n:=0)).1 (Yu hc (jE C D) (ZB hc T W) c w.heap.size [] none 0 _ s x ι _ w _ (.inl rfl) b.2 hx K (ab _) fun E V w' M Q _=>?_));obtain⟨z,a,j⟩:=M;have u:LeavesInM Fence.wide 0 P fn V.tmps (fun e w'=>∃o,e=.returned o∧Post P G ι m w v s.m o w') V.defers .returning w':=by
         rw[j.2.defers];refine Po E w' Q j.1 fun I U h2 h3 h4 h5 h6=>?_
         have A:Ea P G E fn.ntmps s z V I:=⟨U,j.2⟩
         obtain⟨o,q1,q2⟩:=P6 A L;refine⟨o,q1,o,rfl,z,?_,U,q2⟩;exact⟨a.size,a.low,a.keep,a.ro,a.ro',a.le,a.back,a.dom,am a.heap h2,fun c B hf=>(h3 c B).trans (a.frame c B hf),h4.trans a.tape,h5.trans a.os,h6.trans a.output⟩
        rcases J with rfl|rfl<;>exact u
       grind
      grind
  ·simp only[Em] at h
   split at h
   ·rename_i r l
    rw[bb] at l;obtain⟨F,l,_⟩:=l;exact(C f F l).2.2.1
   ·split at h
    ·cases h
    ·rename_i fn y
     split at h
     ·cases h
     ·rename_i c hb
      split at h
      ·rename_i k
       simp only[Bool.and_eq_true,decide_eq_true_eq] at k;have b:=k.1;unfold Ir at b;simp only[Bool.and_eq_true,Bool.not_eq_true'] at b;exact⟨fn,y,by grind,b.1⟩
      grind
end
section
variable {P:Program}{G:List Nat}
def QH(m:Mem):Prop:=∀b,b<m.size→m.ro b=true
structure Grow(ι:BG)(m:Mem)(ι':BG)(m':Mem):Prop where
 le:Le ι m.gen ι' m'.gen
 size:m.size≤m'.size
 get:∀b,b<m.size→m'.get b=m.get b
theorem Grow.refl(ι:BG)(m:Mem):Grow ι m ι m:=⟨Le.refl _ _,ab _,fun _ _=>rfl⟩
theorem Grow.trans{ι c a:BG}{m m' d:Mem}(h:Grow ι m c m')(k:Grow c m' a d):Grow ι m a d :=
 ⟨h.le.trans k.le,am h.size k.size,fun b e=>(k.get b (ag e h.size)).trans (h.get b e)⟩
theorem zJ{ι:BG}{m:Mem}{W:World}{c sh:Nat}{cs:Array Value}{e e':TypeId}{H:Nat×Nat}{vs:List Value}(j:DF P G ι m W)(s:QH m)
 (A:W.heap[c]?=some (.cells cs e' H)) (B:∀i,i<vs.length→∃v',cs[sh+i]?=some v'∧Aw ι m.gen (vs.getD i undef) v') :
 ∃f,DF P G f (m.alloc (.cells vs e 0 true)) W∧f m.size=some ⟨c,sh,cs.size,P.cellsOf e⟩∧Grow ι m f (m.alloc (.cells vs e 0 true))∧QH (m.alloc (.cells vs e 0 true)):=by
 have hget:∀b,b<m.size→(m.alloc (.cells vs e 0 true)).get b=m.get b:=fun b a=>by rw[Mem.Bj,if_neg (by omega)]
 have z:∀b,b<m.size→(m.alloc (.cells vs e 0 true)).gen b=m.gen b:=fun b a=>CS (hget b a)
 have g:(m.alloc (.cells vs e 0 true)).get m.size=.cells vs e 0 true:=by rw[Mem.Bj,if_pos rfl]
 have o:QH (m.alloc (.cells vs e 0 true)):=fun b a=>by
  by_cases h:b=m.size
  ·subst h;exact Mem.P5 g
  ·have:b<m.size:=by simp only[Mem.alloc] at a;omega
   rw[Fp (hget b this)];exact s b this
 let f:BG:=fun b=>if b=m.size then some ⟨c,sh,cs.size,P.cellsOf e⟩ else ι b
 have l:Le ι m.gen f (m.alloc (.cells vs e 0 true)).gen:=fun b d a=>by
  have q:=(j.dom b d a).1;grind
 have y:c<W.heap.size:=(al.1 A).1;refine⟨f,⟨fun b d a=>?_,fun b d a=>?_,fun b r d p a n I=>?_,fun k C=>?_⟩,if_pos rfl,⟨l,by simp[Mem.alloc],hget⟩,o⟩
 ·change (if b=m.size then some _ else ι b)=some d at a
  split at a
  ·cases a;exact⟨by simp[Mem.alloc];omega,y⟩
  ·have:=j.dom b d a
   exact⟨by simp only[Mem.alloc];omega,this.2⟩
 ·change (if b=m.size then some _ else ι b)=some d at a
  split at a
  ·rename_i u;cases a;subst u
   rw[g,A];refine⟨(fun h=>by cases h),rfl,rfl,fun i E=>?_,(fun h=>by cases h)⟩;obtain⟨v',x,w⟩:=B i E;exact⟨v',x,w.mono l⟩
  ·rw[hget b (j.dom b d a).1]
   exact(j.blk b d a).mono l
 ·refine .inr ⟨o b ?_,o r ?_⟩
  ·change (if b=m.size then some _ else ι b)=some d at a
   split at a
   ·simp[Mem.alloc];omega
   ·have:=(j.dom b d a).1;simp only[Mem.alloc];omega
  ·change (if r=m.size then some _ else ι r)=some p at n
   split at n
   ·simp[Mem.alloc];omega
   ·have:=(j.dom r p n).1;simp only[Mem.alloc];omega
 ·obtain⟨d,x,w,F,K,J⟩:=j.glob k C
  have q:=(j.dom k d x).1;refine⟨d,?_,w,⟨F.1,by grind⟩,by grind,by rw[Fp (hget k q)];omega⟩;grind
def Xl{H:Type}(g:TypeId→DataW H→Mem→Option (List Value×Mem)):List (TypeId×DataW H)→Mem→Option (List Value×Mem)
 |[],m=>some ([],m)
 |(t,d)::rest,m=>match g t d m with
  |some (l,m1)=>match Xl g rest m1 with
   |some (r,m2)=>some (l++r,m2)
   |none=>none
  |none=>none
def SK{H:Type}(P:Program):Nat→TypeId→DataW H→Mem→Option (List Value×Mem)
 |0,_,_,_=>none
 |f+1,t,d,m =>
  match P.underlying t,d with
  |some .bool,.lit (.bool b)=>some ([.bool b],m)
  |some (.int k),.lit (.int _ n)=>some ([.int k n],m)
  |some .string,.lit (.string s)=>some ([.string ⟨s.toArray⟩],m)
  |some (.slice _),.nil=>some ([.slice none 0 0],m)
  |some (.slice e),.slice elems spare =>
   if P.cellsOf e=0 then none else
   if elems.isEmpty&&spare.isEmpty then some ([.slice (some ⟨0,0,some 0⟩) 0 0],m) else
   match Xl (SK P f) (elems.map fun x=>(e,x)) m with
   |some (l,m1)=>some ([.slice (some ⟨m1.size,0,none⟩) elems.length 0],m1.alloc (.cells l e 0 true))
   |none=>none
  |some (.struct fs),.agg parts =>
   if(fs.toList.map fun fd=>((List.range (P.cellsOf t)).drop fd.offset).take (P.cellsOf fd.type)).flatten=List.range (P.cellsOf t) then
    Xl (SK P f) ((fs.toList.map (·.type)).zip parts) m else none
  |some (.array n e),.agg parts =>
   if((List.range n).map fun i=>((List.range (P.cellsOf t)).drop (i*P.cellsOf e)).take (P.cellsOf e)).flatten=List.range (P.cellsOf t) then
    Xl (SK P f) (parts.map fun x=>(e,x)) m else none
  |_,_=>none
theorem mapM_some{α β:Type}{f:α→Option β}:∀{l:List α} {r:List β},l.mapM f=some r→r.length=l.length∧∀(i:Nat) a,l[i]?=some a→∃b,r[i]?=some b∧f a=some b
 |[],r,h=>by
  grind
 |x::l,r,h=>by
  rw[List.mapM_cons] at h;simp only[bind,Option.bind_eq_some_iff,pure,Option.some.injEq] at h;obtain⟨y,j,d,c,rfl⟩:=h;obtain⟨g,e⟩:=mapM_some c;grind
def NM(P:Program)(G:List Nat)(W:World)(ι:BG)(m:Mem)(l:List Value)(m':Mem)(cs:List Value):Prop :=
 ∃ι',DF P G ι' m' W∧Grow ι m ι' m'∧QH m'∧BA ι' m'.gen l cs
theorem Ox{H:Type}{W:World}{g:TypeId→DataW H→Mem→Option (List Value×Mem)}:∀(xs:List (TypeId×DataW H)) (css:List (List Value)) (ι:BG) (m m':Mem) (l:List Value),
 xs.length=css.length→(∀(i:Nat) (t:TypeId) (d:DataW H) (cs:List Value),xs[i]?=some (t,d)→css[i]?=some cs→∀(ι:BG) (m m':Mem) (l:List Value),DF P G ι m W→QH m→g t d m=some (l,m')→NM P G W ι m l m' cs) →
 DF P G ι m W→QH m→Xl g xs m=some (l,m')→NM P G W ι m l m' css.flatten
 |[],css,ι,m,m',l,hlen,_,hs,hro,h=>by
  cases h;have:css=[]:=av.1 hlen.symm;subst this;exact⟨ι,hs,Grow.refl _ _,hro,BA.nil⟩
 |(t,d)::xs,css,ι,m,m',l,hlen,hg,hs,hro,h=>by
  match css,hlen with
  |cs::css,hlen =>
   simp only[Xl] at h;cases h1:g t d m with
   |none=>grind
   |some r =>
    obtain⟨f,m1⟩:=r;rw[h1] at h;simp only at h;cases h2:Xl g xs m1 with
    |none=>grind
    |some c =>
     obtain⟨e,m2⟩:=c;rw[h2] at h;cases h;obtain⟨b,p,o,n,k⟩:=hg 0 t d cs (by simp) (by simp) ι m m1 f hs hro h1;obtain⟨a,b1,b2,b3,j⟩:=Ox xs css b m1 m' e (by grind) (fun i t d cs s q=>hg (i+1) t d cs (by grind) (by grind)) p n h2;refine⟨a,b1,o.trans b2,b3,?_⟩;exact(k.mono b2.le).append j
theorem Qp(cs:List Value):(List.range cs.length).map (fun i=>cs.getD i undef)=cs:=by
 apply bj;grind
theorem Tn{α:Type}(cs:List Value)(l:List α)(off size:α→Nat)
 (h:(l.map fun a=>((List.range cs.length).drop (off a)).take (size a)).flatten=List.range cs.length):(l.map fun a=>(cs.drop (off a)).take (size a)).flatten=cs:=by
 have b:=congrArg (List.map fun i=>cs.getD i undef) h;rw[Qp,List.map_flatten,fp] at b;refine ez ?_ b;congr 1
 apply fR;intro a _;simp only[Function.comp,List.map_take,List.map_drop,Qp]
theorem lM(sz:Nat):∀(n:Nat) (row:List Value),row.length=n*sz→((List.range n).map fun i=>(row.drop (i*sz)).take sz).flatten=row:=by
 intro n
 induction n with
 |zero=>simp
 |succ n a =>
  intro row h;rw[gL,bt,List.flatten_cons,fp];have d:(row.drop sz).length=n*sz:=by grind
  have c:=a (row.drop sz) d;have b:(List.map ((fun i=>List.take sz (List.drop (i*sz) row)) ∘ Nat.succ) (List.range n))=(List.map (fun i=>List.take sz (List.drop (i*sz) (List.drop sz row))) (List.range n)):=by
   apply fR;intro i _;simp only[Function.comp,List.drop_drop];grind
  rw[b,c];simp
theorem cells?_some{W:World}{a:Addr}{n:Nat}{cs:List Value}(h:W.cells? 0 a n=some cs):cs.length=n∧∀i,i<n→W.cell? (a.add i)=cs[i]?:=by
 obtain⟨g,d⟩:=mapM_some h;refine⟨by grind,fun i c=>?_⟩;obtain⟨b,f,e⟩:=d i i (ca c);grind
theorem bW{H:Type}{enc:TypeId×Value→H}{W:World}{held:Bool}:∀(f:Nat) (t:TypeId) (cs:List Value) (d:DataW H) (ps:List MemPlace),
 DataW.trod enc P W 0 (fun _=>true) held f t cs=some (d,ps)→∀(ι:BG) (m m':Mem) (l:List Value),DF P G ι m W→QH m→SK P f t d m=some (l,m')→NM P G W ι m l m' cs:=by
 intro f
 induction f with
 |zero=>intro t cs d ps h;cases h
 |succ f ih =>
  intro t cs d ps h ι m m' l F p o;have one:∀{v:Value},plain v=true→NM P G W ι m [v] m [v]:=fun{v} hp=>⟨ι,F,Grow.refl _ _,p,BA.cons (Aw.plain hp) BA.nil⟩
  unfold DataW.trod at h;unfold SK at o;cases hu:P.underlying t with
  |none=>rw[hu] at h;simp at h
  |some u =>
   rw[hu] at h o;cases u with
   |bool =>
    match cs,h with
    |[.bool b],h =>
     simp only[Option.some.injEq,Prod.mk.injEq] at h;obtain⟨rfl,rfl⟩:=h;simp only[Option.some.injEq,Prod.mk.injEq] at o;obtain⟨rfl,rfl⟩:=o;exact one rfl
   |int k =>
    match cs,h with
    |[.int k' n],h =>
     simp only at h;split at h
     ·rename_i hc
      obtain⟨rfl,_⟩:=hc;simp only[Option.some.injEq,Prod.mk.injEq] at h;obtain⟨rfl,rfl⟩:=h;simp only[Option.some.injEq,Prod.mk.injEq] at o;obtain⟨rfl,rfl⟩:=o;exact one rfl
     ·cases h
   |string =>
    match cs,h with
    |[.string s],h =>
     simp only at h;split at h
     ·simp only[Option.some.injEq,Prod.mk.injEq] at h
      obtain⟨rfl,rfl⟩:=h;simp only[Option.some.injEq,Prod.mk.injEq] at o;obtain⟨rfl,rfl⟩:=o;exact one rfl
     ·cases h
   |struct fs =>
    simp only at h;split at h
    ·rename_i I
     rw[ae] at h;obtain⟨xs,X,he⟩:=h;simp only[Prod.mk.injEq] at he;obtain⟨rfl,rfl⟩:=he;simp only at o;split at o
     ·rename_i J
      obtain⟨T,q2⟩:=mapM_some X;have Z:=Tn cs fs.toList (fun U=>U.offset) (fun U=>P.cellsOf U.type) (by rw[I];exact J);have:=Ox (W:=W) (P:=P) (G:=G) ((fs.toList.map (·.type)).zip (xs.map (·.1))) (fs.toList.map fun U=>(cs.drop U.offset).take (P.cellsOf U.type)) ι m m' l
       (by simp only[List.length_zip,List.length_map,T,Nat.min_self]) (fun i t' d' cs' N V ι m m' l F p o=>by
        rw[gk] at N;obtain⟨r3,r4⟩:=N;rw[aw,ae] at V r3 r4;obtain⟨U,s1,rfl⟩:=V;obtain⟨fd',s2,rfl⟩:=r3;obtain⟨x,s3,rfl⟩:=r4;rw[s1] at s2;cases s2;obtain⟨b,M,C⟩:=q2 i U s1;rw[s3] at M;cases M;exact ih _ _ x.1 x.2 C ι m m' l F p o) F p o
      rw[Z] at this;exact this
     ·cases o
    ·cases h
   |array n e =>
    simp only at h;split at h
    ·rename_i I
     rw[ae] at h;obtain⟨xs,X,he⟩:=h;simp only[Prod.mk.injEq] at he;obtain⟨rfl,rfl⟩:=he;simp only at o;split at o
     ·rename_i J
      obtain⟨T,q2⟩:=mapM_some X;have Z:=Tn cs (List.range n) (fun i=>i*P.cellsOf e) (fun _=>P.cellsOf e) (by rw[I];exact J);have:=Ox (W:=W) (P:=P) (G:=G) ((xs.map (·.1)).map fun x=>(e,x)) ((List.range n).map fun i=>(cs.drop (i*P.cellsOf e)).take (P.cellsOf e)) ι m m' l
       (by simp only[List.length_map,T]) (fun i t' d' cs' N V ι m m' l F p o=>by
        rw[aw,aw] at N;rw[aw,ae] at V;obtain⟨j,s1,rfl⟩:=V;simp only[Option.map_map,Option.map_eq_some_iff,Function.comp,Prod.mk.injEq] at N;obtain⟨x,s3,rfl,rfl⟩:=N;obtain⟨b,M,C⟩:=q2 i j s1;rw[s3] at M;cases M;exact ih _ _ x.1 x.2 C ι m m' l F p o) F p o
      rw[Z] at this;exact this
     ·cases o
    ·cases h
   |slice e =>
    match cs,h with
    |[.slice none 0 0],h =>
     simp only[Option.some.injEq,Prod.mk.injEq] at h;obtain⟨rfl,rfl⟩:=h;simp only[Option.some.injEq,Prod.mk.injEq] at o;obtain⟨rfl,rfl⟩:=o;exact one rfl
    |[.slice (some a) len cap],h =>
     simp only[if_true] at h;split at h
     ·rename_i hc
      rw[bb] at h;obtain⟨A,he,h⟩:=h;rw[ae] at h;obtain⟨rest,hr,hd⟩:=h;simp only[Prod.mk.injEq] at hd;obtain⟨rfl,rfl⟩:=hd;simp only at o;split at o
      ·cases o
      ·rename_i hsz
       obtain⟨T,q2⟩:=mapM_some he;obtain⟨N,V⟩:=mapM_some hr;rw[eV] at T N;have cell:∀i,i<cap→∃R,W.cells? 0 (a.add (i*P.cellsOf e)) (P.cellsOf e)=some R:=fun i hi=>by
        by_cases L:i<len
        ·obtain⟨b,_,C⟩:=q2 i i (ca L)
         rw[bb] at C;obtain⟨R,u3,_⟩:=C;exact⟨R,u3⟩
        ·obtain⟨b,_,C⟩:=V (i-len) (i-len) (ca (by omega))
         rw[bb] at C;obtain⟨R,u3,_⟩:=C;exact⟨R,by rw[← u3];congr 3;omega⟩
       split at o
       ·rename_i y
        simp only[Option.some.injEq,Prod.mk.injEq] at o;obtain⟨rfl,rfl⟩:=o;simp only[Bool.and_eq_true,List.isEmpty_iff,List.map_eq_nil_iff] at y;obtain⟨e1,e2⟩:=y;have hl0:len=0:=by rw[← T,e1];rfl
        have hc0:cap=0:=by
         have:cap-len=0:=by rw[← N,e2];rfl
         omega
        subst hl0;subst hc0;exact⟨ι,F,Grow.refl _ _,p,BA.cons (.wW _ _ _ _) BA.nil⟩
       ·rename_i y
        have K:0<cap:=by
         rcases bp cap with h|h
         ·exfalso
          subst h;have e1:A=[]:=av.1 (by omega);have e2:rest=[]:=av.1 (by omega);rw[e1,e2] at y;simp at y
         ·exact h
        have r:0<P.cellsOf e:=by omega
        obtain⟨ce0,c5k⟩:=cell 0 K;rw[gt,Addr.add_zero'] at c5k;obtain⟨l0,c0⟩:=cells?_some c5k;have g:=c0 0 r;rw[Addr.add_zero',ai (by omega:0<ce0.length)] at g;obtain⟨c,q,S⟩:=a;have Y:S=none:=by
         unfold World.cell? at g;cases S with
         |none=>rfl
         |some s=>split at g<;>simp at g
        subst Y;have w:∃z e' fr,W.heap[c]?=some (.cells z e' fr):=by
         unfold World.cell? at g;simp only at g;split at g
         ·rename_i z e' fr hh;exact⟨z,e',fr,hh⟩
         ·cases g
        obtain⟨z,e',fr,w⟩:=w;have B:∀k,k<cap*P.cellsOf e→∃v,z[q+k]?=some v:=fun k hk=>by
         have hi:k / P.cellsOf e<cap:=(Nat.div_lt_iff_lt_mul r).2 hk;obtain⟨R,hce⟩:=cell (k / P.cellsOf e) hi;obtain⟨l1,c1⟩:=cells?_some hce;have hm:k%P.cellsOf e<P.cellsOf e:=bc _ r;have L:=c1 (k%P.cellsOf e) hm;rw[addr_add,addr_add,cell_of_row w,ai (by omega:k%P.cellsOf e<R.length)] at L;have e1:q+k / P.cellsOf e*P.cellsOf e+k%P.cellsOf e=q+k:=by
          have:=Nat.div_add_mod' k (P.cellsOf e);omega
         rw[e1] at L;exact⟨_,L⟩
        let E:List Value:=(List.range (len*P.cellsOf e)).map fun k=>z.getD (q+k) undef
        have hrl:E.length=len*P.cellsOf e:=by simp[E]
        have hlc:len*P.cellsOf e≤cap*P.cellsOf e:=bw _ hc.2.1;have rowAt:∀k,k<len*P.cellsOf e→E[k]?=z[q+k]?:=fun k hk=>by
         obtain⟨v,hv⟩:=B k (by omega);show((List.range (len*P.cellsOf e)).map fun k=>z.getD (q+k) undef)[k]?=_;rw[aw,ca hk,hv];simp[hv]
        split at o
        ·rename_i l1 m1 habs
         simp only[Option.some.injEq,Prod.mk.injEq] at o;obtain⟨rfl,rfl⟩:=o;have hop:=Ox (W:=W) (P:=P) (G:=G) ((A.map (·.1)).map fun x=>(e,x)) ((List.range len).map fun i=>(E.drop (i*P.cellsOf e)).take (P.cellsOf e)) ι m m1 l1
          (by simp only[List.length_map,T,List.length_range]) (fun i t' d' cs' M C ι m m' l F p o=>by
           rw[aw,aw] at M;rw[aw,ae] at C;obtain⟨j,s1,rfl⟩:=C;simp only[Option.map_map,Option.map_eq_some_iff,Function.comp,Prod.mk.injEq] at M;obtain⟨x,s3,rfl,rfl⟩:=M;have Q:i<len:=by
            rcases aq i len with h|h
            ·exact h
            ·rw[aL (by simpa using h)] at s1;cases s1
           rw[ca Q] at s1;cases s1;obtain⟨b,w1,w2⟩:=q2 i i (ca Q);rw[s3] at w1;cases w1;rw[bb] at w2;obtain⟨R,w3,w4⟩:=w2;obtain⟨l2,c2⟩:=cells?_some w3;have hce:R=(E.drop (i*P.cellsOf e)).take (P.cellsOf e):=by
            apply bj;intro j;by_cases hj:j<P.cellsOf e
            ·have L:=c2 j hj
             rw[addr_add,addr_add,cell_of_row w] at L;rw[← L,ew,if_pos hj,fT,rowAt _ (by
              have:(i+1)*P.cellsOf e≤len*P.cellsOf e:=bw _ (by omega);rw[gr] at this;omega)]
             congr 1;omega
            ·rw[aL (by omega),ew,if_neg hj]
           rw[← hce];exact ih _ _ x.1 x.2 w4 ι m m' l F p o) F p habs
         rw[lM _ _ _ hrl] at hop;obtain⟨ι1,o1,o2,o3,o4⟩:=hop;obtain⟨ι2,p1,p2,p3,p4⟩:=zJ (e:=e) (sh:=q) (vs:=l1) o1 o3 w (fun i hi=>by
          obtain⟨v',L,h2⟩:=o4.get (ai hi);refine⟨v',?_,by rw[getD_lt hi];exact h2⟩;have Q:i<len*P.cellsOf e:=by rw[← hrl,← o4.1];exact hi
          rw[← rowAt i Q];exact L)
         refine⟨ι2,p1,o2.trans p3,p4,BA.cons ?_ BA.nil⟩;rw[show(A.map (·.1)).length=len from by rw[aM,T]];refine .sl _ _ _ _ _ _ ⟨_,p2,an _,?_,fun _=>⟨rfl,rfl,.inr ⟨(cz q).symm,?_⟩⟩⟩
         ·exact hc.2.1
         ·simp only
          obtain⟨v,hv⟩:=B (cap*P.cellsOf e-1) (by
           have:0<cap*P.cellsOf e:=dC K r;omega)
          have:=(al.1 hv).1;have hp:0<cap*P.cellsOf e:=dC K r;omega
        ·cases o
     ·cases h
   |_=>simp at o
end
section
variable {P:Program}{G:List Nat}
theorem RU{H:Type}{g e:TypeId→DataW H→Mem→Option (List Value×Mem)}(c:∀t d m r,g t d m=some r→e t d m=some r) :
 ∀(xs:List (TypeId×DataW H)) (m:Mem) (r:List Value×Mem),Xl g xs m=some r→Xl e xs m=some r
 |[],m,r,h=>h
 |(t,d)::xs,m,r,h=>by
  simp only[Xl] at h ⊢;cases h1:g t d m with
  |none=>grind
  |some a =>
   rw[h1] at h;rw[c _ _ _ _ h1];simp only at h ⊢;cases h2:Xl g xs a.2 with
   |none=>grind
   |some b =>
    rw[h2] at h;rw[RU c xs _ _ h2];exact h
theorem jQ{H:Type}:∀(f:Nat) (t:TypeId) (d:DataW H) (m:Mem) (r:List Value×Mem),SK P f t d m=some r→SK P (f+1) t d m=some r
 |0,_,_,_,_,h=>by cases h
 |f+1,t,d,m,r,h=>by
  have a:=fun t d m r=>jQ (H:=H) f t d m r
  unfold SK at h ⊢;split at h
  all_goals try exact h
  all_goals try(cases h)
  all_goals split at h
  all_goals try(cases h)
  all_goals rename_i b
  ·simp only[if_neg b]
   split at h
   ·grind
   ·rename_i e
    simp only[if_neg e];split at h
    ·rename_i l m1 c
     rw[RU a _ _ _ c];exact h
    grind
  ·simp only[if_pos b];exact RU a _ _ _ h
  ·simp only[if_pos b];exact RU a _ _ _ h
theorem a1q{H:Type}{f g:Nat}{t:TypeId}{d:DataW H}{m:Mem}{r:List Value×Mem}(a:f≤g)(h:SK P f t d m=some r):SK P g t d m=some r:=by
 induction a with
 |refl=>exact h
 |step _ b=>exact jQ _ _ _ _ _ b
theorem a4j{H:Type}{enc:TypeId×Value→H}{W:World}{a:Bool}{t:TypeId}{v:Value}{d:DataW H}{ps:List MemPlace}(h:DataW.Trod enc P W 0 (fun _=>true) a t v d ps)
 {F:Nat} {ι:BG} {m m':Mem} {l:List Value} (c:DF P G ι m W) (b:QH m) (g:SK P F t d m=some (l,m')):NM P G W ι m l m' v.cells.toList:=by
 obtain⟨f,e⟩:=h;exact bW (max f F) t _ d ps (DataW.trod_le (Nat.le_max_left _ _) e) ι m m' l c b (a1q (Nat.le_max_right _ _) g)
def sH(P:Program)(t:TypeId)(l:List Value):Option Value :=
 match P.underlying t,l with
 |some (.struct _),l=>some (.agg ⟨l⟩)
 |some (.array _ _),l=>some (.agg ⟨l⟩)
 |some .bool,[v]|some (.int _),[v]|some .string,[v]|some (.slice _),[v]=>some v
 |_,_=>none
def Vx{H:Type}(P:Program)(F:Nat):List TypeId→List (DataW H)→Mem→Option (List Value×Mem)
 |[],[],m=>some ([],m)
 |t::ts,d::ds,m=>match SK P F t d m with
  |some (l,m1)=>match sH P t l with
   |some v=>match Vx P F ts ds m1 with
    |some (r,m2)=>some (v::r,m2)
    |none=>none
   |none=>none
  |none=>none
 |_,_,_=>none
theorem a8t{W:World}{r:Go.Reach}{b0:Nat}{ι:BG}{g:Nat→Nat}{t:TypeId}{v x:Value}{l:List Value}(b:Value.okWide P W r b0 t v)(d:sH P t l=some x)
 (a:BA ι g l v.cells.toList):Aw ι g x v:=by
 unfold sH at d;split at d
 ·rename_i c
  cases d;simp only[Value.okWide,c] at b;obtain⟨⟨f⟩,rfl,-⟩:=b;exact .agg _ _ a.1 a.2
 ·rename_i c
  cases d;simp only[Value.okWide,c] at b;obtain⟨⟨f⟩,rfl,-⟩:=b;exact .agg _ _ a.1 a.2
 all_goals first
  |(rename_i c
    cases d;simp only[Value.okWide,c,Cell.okWide] at b;have e:v.cells=#[v]:=by cases v<;>simp_all [Cell.ok,Value.cells]
    rw[e] at a;have:=a.2 0 (by simp);simpa using this)
  |grind
theorem Xm{H:Type}{enc:TypeId×Value→H}{W:World}{b:Bool}{r:Go.Reach}{b0:Nat}{F:Nat}:∀(a:List TypeId) (vs:List Value) (ds:List (DataW H)) (ps:List MemPlace),
 DataW.TrodAll enc P W 0 (fun _=>true) b a vs ds ps→(∀(j:Nat) t v,a[j]?=some t→vs[j]?=some v→Value.okWide P W r b0 t v) →
 ∀(ι:BG) (m m':Mem) (Bh:List Value),DF P G ι m W→QH m→Vx P F a ds m=some (Bh,m')→NM P G W ι m Bh m' vs
 |[],[],[],ps,h,hv,ι,m,m',Bh,hs,hro,ha=>by
  cases ha;exact⟨ι,hs,Grow.refl _ _,hro,BA.nil⟩
 |t::a,v::vs,d::ds,ps,h,hv,ι,m,m',Bh,hs,hro,ha=>by
  obtain⟨p,q,A,z,-⟩:=h;simp only[Vx] at ha;split at ha
  ·rename_i l m1 E
   split at ha
   ·rename_i x C
    split at ha
    ·rename_i g m2 B
     cases ha;obtain⟨e,w,u,s,o⟩:=a4j A hs hro E;obtain⟨c,n,f,k,i⟩:=Xm a vs ds q z (fun j t v I y=>hv (j+1) t v (by grind) (by grind)) e m1 _ g w s B;exact⟨c,n,u.trans f,k,BA.cons ((a8t (hv 0 t v rfl rfl) C o).mono f.le) i⟩
    grind
   grind
  grind
 |[],[],_::_,ps,h,_,_,_,_,_,_,_,_=>h.elim
 |[],_::_,_,ps,h,_,_,_,_,_,_,_,_=>h.elim
 |_::_,[],_,ps,h,_,_,_,_,_,_,_,_=>h.elim
 |_::_,_::_,[],ps,h,_,_,_,_,_,_,_,_=>h.elim
def allocs(m:Mem):List II→Mem
 |[]=>m
 |b::r=>allocs (m.alloc b) r
theorem QE:∀(l:List II) (m:Mem),(allocs m l).size=m.size+l.length
 |[],m=>rfl
 |b::r,m=>by rw[allocs,QE r];simp[Mem.alloc];omega
theorem Uf:∀(l:List II) (m:Mem) (b:Nat),(allocs m l).get b=if b<m.size then m.get b else match l[b-m.size]? with|some x=>x|none=>m.get b
 |[],m,b=>by simp[allocs]
 |x::r,m,b=>by
  rw[allocs,Uf r,Mem.Bj];have a:(m.alloc x).size=m.size+1:=rfl;grind
def empty:Mem:=⟨.leaf,0,0⟩
def absP(P:Program)(F:Nat)(t:TypeId)(d:DataW Unit):Option (List Value) :=
 match SK P F t d empty with
 |some (l,_)=>if l.all plainCell then some l else none
 |none=>none
def c6p(P:Program)(t:TypeId):TypeId:=match P.underlying t with|some (.array _ e)=>e|_=>t
def Ib(P:Program)(F:Nat)(laid:List (String×DataW Unit))(k:Nat):Option (TypeId×List Value) :=
 match laid.find? (fun x=>P.globalNamed x.1==some k),P.globals[k]? with
 |some x,some g=>(absP P F g.type x.2).map fun l=>(c6p P g.type,l)
 |_,_=>none
def AZ(P:Program)(F:Nat)(laid:List (String×DataW Unit)):Mem :=
 allocs empty ((List.range P.globals.size).map fun k=>match Ib P F laid k with
  |some (e,l)=>.cells l e 0 true
  |none=>.cells [] 0 0 true)
def Az(P:Program)(F:Nat)(laid:List (String×DataW Unit)):List Nat:=(List.range P.globals.size).filter fun k=>(Ib P F laid k).isSome
theorem a2k{W:World}:∀{laid:List (String×DataW Unit)} {ps:List MemPlace},DataW.LaidVars P W laid ps→∀x∈laid,∃g t cs fuel p,P.globalNamed x.1=some g∧(P.globals[g]?).map (·.type)=some t ∧
 W.var? P x.1=some cs∧DataW.trod (fun _=>()) P W 0 (fun _=>true) false fuel t cs.toList=some (x.2,p)
 |[],_,_,x,hx=>by grind
 |(n,d)::r,ps,h,x,hx=>by
  obtain⟨g,t,cs,fuel,p,q,f,e,c,b,a,-⟩:=h;rcases bo.1 hx with rfl|hx
  ·grind
  ·exact a2k a x hx
theorem a7x(W:World):DF P [] (fun _=>none) empty W :=
 ⟨fun _ _ h=>(by cases h),fun _ _ h=>(by cases h),fun _ _ _ _ h=>(by cases h),fun _ h=>(by cases h)⟩
theorem dL{F:Nat}{laid:List (String×DataW Unit)}{W:World}(j:laidMet P laid W){k:Nat}{e:TypeId}{l:List Value}(f:Ib P F laid k=some (e,l)) :
 l.all plainCell=true∧∃cs e' H,W.heap[k]?=some (.cells cs e' H)∧cs.toList=l:=by
 obtain⟨K,j,-⟩:=j;unfold Ib at f;split at f
 ·rename_i x g w T
  rw[ae] at f;obtain⟨S,a,m⟩:=f;cases m;have c:=List.mem_of_find?_eq_some w;have z:P.globalNamed x.1=some k:=by grind
  obtain⟨E,t,cs,d,p,n,J,u,s⟩:=a2k j x c;obtain rfl:E=k:=ci (n.symm.trans z);have y:t=g.type:=by grind
  subst y;unfold absP at a;split at a
  ·rename_i R Q C
   split at a
   ·rename_i q
    cases a;obtain⟨r,N,M,L,o⟩:=bW (G:=[]) (max d F) _ _ _ _ (DataW.trod_le (Nat.le_max_left _ _) s) (fun _=>none) empty _ _ (a7x W) (fun b B=>by cases B) (a1q (Nat.le_max_right _ _) C);refine⟨q,?_⟩;have A:cs.toList=l:=by
     apply bj;intro i;by_cases h:i<l.length
     ·obtain⟨I,a,m⟩:=o.get (ai h)
      rw[a,ai h,m.D8 (az.1 q _ (cV h))]
     ·rw[aL (by have:=o.1;omega),aL (by omega)]
    simp only[World.var?,n,Option.bind_some] at u;grind
   grind
  grind
 grind
theorem jI{F:Nat}{laid:List (String×DataW Unit)}{W:World}(x:laidMet P laid W):∃ι,DF P (Az P F laid) ι (AZ P F laid) W∧QH (AZ P F laid):=by
 have f:(AZ P F laid).size=P.globals.size:=by rw[AZ,QE];simp[empty]
 have hget:∀k,k<P.globals.size→(AZ P F laid).get k=match Ib P F laid k with|some (e,l)=>.cells l e 0 true|none=>.cells [] 0 0 true:=fun k n=>by
  rw[AZ,Uf,if_neg (by simp[empty])];simp only[empty,Nat.sub_zero,List.getElem?_map,List.getElem?_range n,Option.map_some]
 have j:QH (AZ P F laid):=fun b A=>by
  have h:=hget b (f▸A);split at h<;>exact Mem.P5 h
 let ι:BG:=fun k=>match Ib P F laid k,W.heap[k]? with
  |some (e,l),some (.cells c _ _)=>if k<P.globals.size then some ⟨k,0,c.size,P.cellsOf e⟩ else none
  |_,_=>none
 have q:∀k a,ι k=some a→k<P.globals.size∧∃e l c u s,Ib P F laid k=some (e,l)∧W.heap[k]?=some (.cells c u s)∧a=⟨k,0,c.size,P.cellsOf e⟩:=fun k a h=>by
  grind
 refine⟨ι,⟨fun k a h=>?_,fun k a h=>?_,fun k J a y h K _=>?_,fun k n=>?_⟩,j⟩
 ·grind
 ·obtain⟨p,e,l,c,u,s,o,m,rfl⟩:=q k a h
  have d:=hget k p;rw[o] at d;obtain⟨w,H,E,C,r,B⟩:=dL x o;rw[m] at r;cases r;simp only[d,m];refine⟨fun h=>(by cases h),rfl,rfl,fun i z=>?_,fun h=>(by cases h)⟩;refine⟨l.getD i undef,?_,Aw.plainCell (az.1 w _ (getD_mem z))⟩;grind
 ·grind
 ·simp only[Az,List.mem_filter,List.mem_range] at n
  obtain⟨p,o⟩:=n;obtain⟨⟨e,l⟩,m⟩:=gv.1 o;obtain⟨w,c,u,s,r,B⟩:=dL x m;refine⟨⟨k,0,c.size,P.cellsOf e⟩,?_,rfl,⟨rfl,fun I E g ro d=>?_⟩,?_,j k (f▸p)⟩
  ·grind
  ·grind
  ·have d:=hget k p
   rw[m] at d;simp only[Mem.gen,d,II.gen]
end
section
variable {P:Program}{G:List Nat}{O:BP}
def Ev{α β:Type}(F:Nat→Nat→Option (α×β))(Q:α→β→Prop):Prop:=∃a b,(∃K,∀N D,K≤N→K≤D→F N D=some (a,b))∧Q a b
def GH(P:Program)(O:BP)(G:List Nat)(f:FuncId)(Bh:List Value)(m:Mem)(Q:Value→Mem→Prop):Prop :=
 Ev (fun N D=>Em P O G N D f Bh m) Q
def Nz(P:Program)(O:BP)(G:List Nat)(c:Code)(s:St)(Q:BH→St→Prop):Prop :=
 Ev (fun N D=>BJ P (Em P O G N D) N c s) Q
def Gy(P:Program)(O:BP)(G:List Nat)(o:Oper)(s:St)(Q:Value→Mem→Prop):Prop :=
 Ev (fun N D=>BO P (Em P O G N D) (ev s.t) o s.m) Q
theorem Ev.mono{α β:Type}{F:Nat→Nat→Option (α×β)}{Q R:α→β→Prop}(h:Ev F Q)(c:∀a b,Q a b→R a b):Ev F R:=by
 obtain⟨a,b,h,q⟩:=h;exact⟨a,b,h,c _ _ q⟩
theorem Ev.now{α β:Type}{F:Nat→Nat→Option (α×β)}{Q:α→β→Prop}{a:α}{b:β}(h:∀N D,F N D=some (a,b))(q:Q a b):Ev F Q:=⟨a,b,⟨0,fun N D _ _=>h N D⟩,q⟩
theorem Nz.seq{a b:Code}{s:St}{Q:BH→St→Prop}(g:Nz P O G a s fun e s'=>match e with| .normal=>Nz P O G b s' Q|e=>Q e s'):Nz P O G (.seq a b) s Q:=by
 obtain⟨e,s',⟨K,h⟩,q⟩:=g;cases e with
 |normal =>
  obtain⟨j,s2,⟨k,l⟩,f⟩:=q;refine⟨j,s2,⟨max K k,fun N D c d=>?_⟩,f⟩;have:=h N D (by omega) (by omega);simp only[BJ,this];grind
 |ret=>exact⟨_,s',⟨K,fun N D c d=>by simp only[BJ,h N D c d]⟩,q⟩
 |exit i=>exact⟨_,s',⟨K,fun N D c d=>by simp only[BJ,h N D c d]⟩,q⟩
theorem Nz.skip{s:St}{Q:BH→St→Prop}(h:Q .normal s):Nz P O G .skip s Q:=Ev.now (fun _ _=>rfl) h
theorem Nz.ret{s:St}{Q:BH→St→Prop}(h:Q .ret s):Nz P O G .ret s Q:=Ev.now (fun _ _=>rfl) h
theorem Nz.exit{id:Nat}{s:St}{Q:BH→St→Prop}(h:Q (.exit id) s):Nz P O G (.exit id) s Q:=Ev.now (fun _ _=>rfl) h
theorem Nz.cond{c:Operand}{a b:Code}{s:St}{Q:BH→St→Prop}(t:Bool)(f:ev s.t c=.bool t)(g:t=true→Nz P O G a s Q)(i:t=false→Nz P O G b s Q) :
 Nz P O G (.cond c a b) s Q:=by
 cases t
 ·obtain⟨e,d,⟨K,h⟩,q⟩:=i rfl
  exact⟨e,d,⟨K,fun N D j k=>by simp only[BJ,f];grind⟩,q⟩
 ·obtain⟨e,d,⟨K,h⟩,q⟩:=g rfl
  exact⟨e,d,⟨K,fun N D j k=>by simp only[BJ,f];grind⟩,q⟩
theorem Nz.block{id:Nat}{b:Code}{s:St}{Q:BH→St→Prop}(h:Nz P O G b s fun e s'=>match e with| .exit i=>if i=id then Q .normal s' else Q (.exit i) s'|e=>Q e s'):Nz P O G (.block id b) s Q:=by
 obtain⟨e,s',⟨K,h⟩,q⟩:=h;cases e with
 |normal=>exact⟨_,s',⟨K,fun N D a c=>by simp only[BJ,h N D a c]⟩,q⟩
 |ret=>exact⟨_,s',⟨K,fun N D a c=>by simp only[BJ,h N D a c]⟩,q⟩
 |exit i =>
  simp only at q;split at q
  ·rename_i d
   exact⟨_,s',⟨K,fun N D a c=>by simp only[BJ,h N D a c,if_pos d]⟩,q⟩
  ·rename_i d
   exact⟨_,s',⟨K,fun N D a c=>by simp only[BJ,h N D a c,if_neg d]⟩,q⟩
theorem Nz.loop{b:Code}{s:St}{Q:BH→St→Prop}(I:Nat→St→Prop)(n:Nat)(w:I n s)
 (a:∀n s,I n s→Nz P O G b s fun e s'=>match e with| .normal=>∃c,c<n∧I c s'|e=>Q e s'):Nz P O G (.loop b) s Q:=by
 have d:∀n s,I n s→∃e s',(∃K,∀N D k,K≤N→K≤D→K≤k→iterate (BJ P (Em P O G N D) N b) k s=some (e,s'))∧Q e s':=by
  intro n
  induction n using Nat.strongRecOn with
  |_ n p =>
   intro s u;obtain⟨e,s',⟨K,h⟩,q⟩:=a n s u;cases e with
   |normal =>
    obtain⟨c,r,g⟩:=q;obtain⟨x,s2,⟨y,z⟩,o⟩:=p c r s' g;refine⟨x,s2,⟨max K y+1,fun N D k f l m=>?_⟩,o⟩;obtain⟨k,rfl⟩:∃j,k=j+1:=⟨k-1,by omega⟩
    simp only[iterate,h N D (by omega) (by omega)];grind
   |ret =>
    refine⟨_,s',⟨K+1,fun N D k f l m=>?_⟩,q⟩;obtain⟨k,rfl⟩:∃j,k=j+1:=⟨k-1,by omega⟩
    simp only[iterate,h N D (by omega) (by omega)]
   |exit i =>
    refine⟨_,s',⟨K+1,fun N D k f l m=>?_⟩,q⟩;obtain⟨k,rfl⟩:∃j,k=j+1:=⟨k-1,by omega⟩
    simp only[iterate,h N D (by omega) (by omega)]
 obtain⟨e,s',⟨K,h⟩,q⟩:=d n s w;exact⟨e,s',⟨K,fun N D f l=>by simp only[BJ];grind⟩,q⟩
def Vf(P:Program)(O:BP)(G:List Nat)(ops:Array Oper)(l:List Oper)(s:St)(Q:St→Prop):Prop :=
 ∃s',(∃K,∀N D,K≤N→K≤D→Jc P (Em P O G N D) ops l s=some s')∧Q s'
def Jd(P:Program)(O:BP)(G:List Nat)(ops:Array Oper)(i:Nat)(l:List Oper)(s:St)(Q:St→Prop):Prop :=
 ∃s',(∃K,∀N D,K≤N→K≤D→IC P (Em P O G N D) ops i l s=some s')∧Q s'
theorem Nz.region{id:Nat}{ops:Array Oper}{s:St}{Q:BH→St→Prop}(h:Vf P O G ops ops.toList s (Q .normal)):Nz P O G (.region id ops false) s Q:=by
 obtain⟨a,⟨K,h⟩,q⟩:=h;exact⟨_,a,⟨K,fun N D b c=>by simp only[BJ,h N D b c,Option.map_some]⟩,q⟩
theorem Nz.E5{id:Nat}{ops:Array Oper}{s:St}{Q:BH→St→Prop}(h:Jd P O G ops 0 ops.toList s (Q .normal)):Nz P O G (.region id ops true) s Q:=by
 obtain⟨a,⟨K,h⟩,q⟩:=h;exact⟨_,a,⟨K,fun N D b c=>by simp only[BJ,h N D b c,Option.map_some]⟩,q⟩
theorem Vf.nil{ops:Array Oper}{s:St}{Q:St→Prop}(h:Q s):Vf P O G ops [] s Q:=⟨_,⟨0,fun _ _ _ _=>rfl⟩,h⟩
theorem Jd.nil{ops:Array Oper}{i:Nat}{s:St}{Q:St→Prop}(h:Q s):Jd P O G ops i [] s Q:=⟨_,⟨0,fun _ _ _ _=>rfl⟩,h⟩
theorem Vf.cons{ops:Array Oper}{o:Oper}{l:List Oper}{s:St}{Q:St→Prop}(b:Region.wanted o (Eo ops s.t)=true)
 (h:Gy P O G o s fun v m'=>Vf P O G ops l { t:=Ic s.t o.dst v,m:=m' } Q):Vf P O G ops (o::l) s Q:=by
 obtain⟨v,m',⟨K,h⟩,a,⟨c,f⟩,q⟩:=h;refine⟨a,⟨max K c,fun N D d e=>?_⟩,q⟩;simp only[Jc,Jv,b,if_true,su,h N D (by omega) (by omega)];grind
theorem Vf.skip{ops:Array Oper}{o:Oper}{l:List Oper}{s:St}{Q:St→Prop}(b:Region.wanted o (Eo ops s.t)=false)
 (h:Vf P O G ops l { t:=Ic s.t o.dst undef,m:=s.m } Q):Vf P O G ops (o::l) s Q:=by
 obtain⟨a,⟨c,f⟩,q⟩:=h;refine⟨a,⟨c,fun N D d e=>?_⟩,q⟩;simp only[Jc,Jv,b];grind
def Mem.at(m:Mem)(k:Nat):Mem:={ m with low:=k }
@[simp] theorem Mem.d0c(m:Mem)(k b:Nat):(m.at k).get b=m.get b:=rfl
@[simp] theorem Mem.c6y(m:Mem)(k:Nat):(m.at k).size=m.size:=rfl
@[simp] theorem Mem.b1i(m:Mem)(k:Nat):(m.at k).low=k:=rfl
@[simp] theorem Mem.at_at(m:Mem)(k j:Nat):(m.at k).at j=m.at j:=rfl
theorem Jd.cons{ops:Array Oper}{i:Nat}{o:Oper}{l:List Oper}{s:St}{Q:St→Prop}(d:Region.wanted o (Eo ops s.t)=true)
 (h:Gy P O G o { t:=s.t,m:=s.m.at s.m.size } fun v m'=>(barrier P ops i=true∨s.m.size≤m'.low∨(oH P ops i=true∧QV ops i s.t=true)∨(Qv P ops i=true∧MX ops i s.t s.m m'=true))∧Jd P O G ops (i+1) l { t:=Ic s.t o.dst v,m:=m'.at (min s.m.low m'.low) } Q) :
 Jd P O G ops i (o::l) s Q:=by
 obtain⟨v,m',⟨K,h⟩,g,c,⟨f,e⟩,q⟩:=h;refine⟨c,⟨max K f,fun N D j k=>?_⟩,q⟩;have b:=h N D (by omega) (by omega);simp only[Mem.at] at b;have a:(barrier P ops i||decide (s.m.size≤m'.low)||(oH P ops i&&QV ops i s.t)||(Qv P ops i&&MX ops i s.t s.m m'))=true:=by
  grind
 simp only[IC,MS,Jv,d,if_true,su,b,a];exact e N D (by omega) (by omega)
theorem Jd.skip{ops:Array Oper}{i:Nat}{o:Oper}{l:List Oper}{s:St}{Q:St→Prop}(c:Region.wanted o (Eo ops s.t)=false)
 (h:Jd P O G ops (i+1) l { t:=Ic s.t o.dst undef,m:=s.m.at (min s.m.low s.m.size) } Q):Jd P O G ops i (o::l) s Q:=by
 obtain⟨b,⟨e,d⟩,q⟩:=h;refine⟨b,⟨e,fun N D f g=>?_⟩,q⟩;have a:(barrier P ops i||decide (s.m.size≤s.m.size)||(oH P ops i&&QV ops i s.t)||(Qv P ops i&&MX ops i s.t s.m { s.m with low:=s.m.size }))=true:=by simp
 simp only[IC,MS,Jv,c];simp only[Bool.false_eq_true,if_false,a,if_true];exact d N D (by omega) (by omega)
theorem Gy.op{o:Oper}{s:St}{Q:Value→Mem→Prop}{v:Value}{m':Mem}(a:∀call,BO P call (ev s.t) o s.m=some (v,m'))(q:Q v m'):Gy P O G o s Q:=Ev.now (fun _ _=>a _) q
theorem Gy.call{o:Oper}{s:St}{Q:Value→Mem→Prop}{f:FuncId}{Bh:List Value}(b:∀call:EO,BO P call (ev s.t) o s.m=call f Bh s.m)(h:GH P O G f Bh s.m Q):Gy P O G o s Q:=by
 obtain⟨v,a,⟨K,h⟩,q⟩:=h;exact⟨v,a,⟨K,fun N D c d=>(b _).trans (h N D c d)⟩,q⟩
theorem GH.enter{f:FuncId}{fn:Func}{c:Code}{Bh:List Value}{m:Mem}{Q:Value→Mem→Prop}(d:O f=none)(k:P.funcs[f]?=some fn)(l:fn.body=some c)(a:Ir G fn c=true)(g:Bh.length≤fn.ntmps)
 (h:Nz P O G c { t:=tmpsOf 0 Bh .leaf,m:=m } fun e s=>match e with| .exit _=>False|_=>∃v,Fj P fn s=some v∧Q v s.m):GH P O G f Bh m Q:=by
 obtain⟨e,s,⟨K,h⟩,q⟩:=h;have:∃v,Fj P fn s=some v∧Q v s.m∧(e=.normal∨e=.ret):=by
  cases e with
  |normal=>grind
  |ret=>grind
  |exit i=>grind
 obtain⟨v,p,o,n⟩:=this;refine⟨v,s.m,⟨K+1,fun N D r u=>?_⟩,o⟩;obtain⟨D,rfl⟩:∃j,D=j+1:=⟨D-1,by omega⟩
 have b:=h N D (by omega) (by omega);rcases n with rfl|rfl<;>simp only[Em,d,Option.bind_none,k,l,a,decide_eq_true g,Bool.and_self,if_true,b,p,Option.map_some]
theorem GH.dI{f:FuncId}{F:List Value→Mem→Option (Value×Mem)}{Bh:List Value}{m m':Mem}{v:Value}{Q:Value→Mem→Prop}(a:O f=some F)(h:F Bh m=some (v,m'))(q:Q v m'):GH P O G f Bh m Q:=by
 refine⟨v,m',⟨1,fun N D b c=>?_⟩,q⟩;obtain⟨D,rfl⟩:∃j,D=j+1:=⟨D-1,by omega⟩
 simp only[Em,a,Option.bind_some,h]
structure Fr(m m':Mem):Prop where
 size:m.size≤m'.size
 get:∀b,b<m.size→m'.get b=m.get b
 low:min m.low m.size≤m'.low
end
end Go.Am
