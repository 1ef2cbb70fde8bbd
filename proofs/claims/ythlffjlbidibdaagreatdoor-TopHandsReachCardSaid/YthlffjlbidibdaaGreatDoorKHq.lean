/-
  Texts of a proof, merged (Wm2, Wm4, HanM, Vm45, HanQ, Wm5). Conditions: in each statement.
-/
import Derived.Test.YthlffjlbidibdaaGreatDoorKHp
set_option linter.unusedSimpArgs false
set_option autoImplicit true
set_option relaxedAutoImplicit true
set_option linter.unusedVariables false
set_option linter.unusedSectionVars false
set_option maxRecDepth 100000
set_option maxHeartbeats 8000000
abbrev fm:=@Array.size_setIfInBounds
abbrev fT:=@Array.getElem?_setIfInBounds_ne
abbrev jb:=@List.map_eq_nil_iff
namespace Go.Am
open Go.ChangeMaps (setBlock)
variable {P:Program}{G:List Nat}
theorem bg(d:o.guard=none)(a:∀c,o.op≠.defer c)(b:(execOp ac.eval o).run P w=.ok (.value v') w')
 (k:wpListIn Fence.wide 0 P ops R l (ac.put o.dst v') w'):wpListIn Fence.wide 0 P ops R (o::l) ac w:=by
 unfold wpListIn;rw[Vm.NY d,if_pos rfl];unfold Oper.wpIn;rw[Oper.semAt_eq _ _ _ a,b];refine⟨fun _ _=>trivial,?_⟩;exact k
theorem DF.len:∀{es es':List MapEntry},DF ι g es es'→es'.length=es.length
 |[],[],_=>rfl
 |_::_,_::_,⟨_,k⟩=>by simp[DF.len k]
 |[],_::_,h=>h.elim
 |_::_,[],h=>h.elim
theorem b8s(g:DR P G ι m w)(h:Ext ι m w a m' w'){k:Nat}(d:w.heap[k]?=some o)(i:o.isCells=false)(p:∀es c,o≠.map es c):w'.heap[k]?=some o:=by
 rw[h.frame k (al.1 d).1 ?_];exact d;intro b f l j;have e:=g.blk b f l;rw[j,d] at e;obtain⟨es,c,q⟩:=OG e i;grind
theorem b7c(f:DR P G ι m W)(q:a=W∨a=W.drew)(k:W.heap[l]?=some o)(j:o.isCells=false)(r:∀es c,o≠.map es c):DR P G ι m (setBlock a l o'):=by
 have s:a.heap=W.heap:=by rcases q with rfl|rfl<;>rfl
 have p:∀c,c≠l→(setBlock a l o').heap[c]?=W.heap[c]?:=fun c u=>by
  show(a.heap.setIfInBounds l o')[c]?=_;grind
 have i:(setBlock a l o').heap.size=W.heap.size:=by
  show(a.heap.setIfInBounds l o').size=_;grind
 refine⟨fun b d g=>⟨(f.dom b d g).1,by rw[i];exact(f.dom b d g).2⟩,fun b d g=>?_,f.inj,f.glob⟩;rw[p d.blk ?_];exact f.blk b d g;intro e;have h:=f.blk b d g;rw[e,k] at h;obtain⟨es,c,x⟩:=OG h j;grind
theorem b8x(h:Ext ι m w b m' W)(d:a=W∨a=W.drew)(j:w.heap.size≤l)(o':Obj):Ext ι m w b m' (setBlock a l o'):=by
 have f:a.heap=W.heap:=by rcases d with rfl|rfl<;>rfl
 have e:(setBlock a l o').heap.size=W.heap.size:=by
  show(a.heap.setIfInBounds l o').size=_;grind
 refine⟨h.size,h.low,h.keep,h.ro,h.ro',h.le,h.back,h.dom,by rw[e];exact h.heap,fun c i g=>?_,?_,?_,?_⟩
 ·show(a.heap.setIfInBounds l o')[c]?=_
  rw[f,fT (by omega)];exact h.frame c i g
 ·rcases d with rfl|rfl<;>exact h.tape
 ·rcases d with rfl|rfl<;>exact h.os
 ·rcases d with rfl|rfl<;>exact h.output
theorem run_move:(execOp ρ ⟨dst,.move x,ty,pos,af,gd⟩).run P w=.ok (.value (ρ x)) w:=by
 rfl
theorem YZ(a:ρ x=.tuple vs)(b:vs[i]?=some v):(execOp ρ ⟨dst,.extract x i,ty,pos,af,gd⟩).run P w=.ok (.value v) w:=by
 simp only[execOp,a];exact H9 (by simp[Instr.extract,b])
theorem Ql{a:Act}{d b:Tmp}(h:d<a.tmps.size):(a.put (some d) v).eval (.tmp b)=if d=b then v else a.eval (.tmp b):=by
 show(a.tmps.setIfInBounds d v).getD b undef=_;by_cases e:d=b
 ·simp_all
 ·rw[if_neg e]
  show _=a.tmps.getD b undef;simp_all
theorem eU{V:List Nat}:e∈(leftOf es V.toArray).toList↔e∈es.toList∧e.born∉V:=by
 unfold leftOf;simp
end Go.Am
namespace Go.Vm
open Go.Am
open Go.ChangeMaps (setBlock)
variable {E:Env}{n bn:Nat}{L:Frame}{H:Heap}{nx:Nat}{Q:BP→Frame→Heap→Nat→Prop}
theorem c2d(h:Stamped l a){e:MapEntry}(b:l[i]?=some e):e.born=i:=h.at b
theorem Du.at:∀{xs:List FV} {vs:List Value} {i:Nat} {x:FV} {v:Value},Du m F xs vs→xs[i]?=some x→vs[i]?=some v→RF m F x v
 |_,_,i,_,_,.nil,h,_=>by grind
 |_,_,0,_,_,.cons h t,h1,h2=>by grind
 |_,_,i+1,_,_,.cons h t,h1,h2=>Du.at t (by assumption) (by grind)
theorem Dw.at:∀{xs:List PV} {vs:List Value} {i:Nat} {x:PV} {v:Value},Dw m F T σ n xs vs→xs[i]?=some x→vs[i]?=some v→RP m F T σ n x v
 |_,_,i,_,_,.nil,h,_=>by grind
 |_,_,0,_,_,.cons h t,h1,h2=>by grind
 |_,_,i+1,_,_,.cons h t,h1,h2=>Dw.at t (by assumption) (by grind)
theorem RL.other(h:RL m F T σ nx L t)(b:Gf L d=none)(v:Value):RL m F T σ nx L (Rq t d v):=fun i x a=>by
 rw[Dt];by_cases e:d=i
 ·grind
 ·rw[if_neg e];exact h i x a
theorem p8{l:Nat}(h:Az ι g (.iface 0 (.int .i64 l)) v'):v'=.pointer (some ⟨l,0,none⟩):=by
 generalize hv:Value.iface 0 (.int .i64 (l:Int))=v at h;cases h<;>simp at hv
 grind
theorem Ji:∀(n:Nat) (V:List Nat),V.Nodup→(∀i∈V,i<n)→V.length≤n
 |0,V,_,h=>by
  match V,h with
  |[],_=>simp
  |a::V,h=>exact absurd (h a (by simp)) (bc _)
 |n+1,V,hn,h=>by
  by_cases c:n∈V
  ·have d:=Ji n (V.erase n) (hn.erase n) fun i b=>by
    grind
   grind
  ·have:=Ji n V hn fun i b=>by
    grind
   omega
theorem zS(h:DF ι g l es){j:Nat}(b:es[j]?=some e):∃c,l[j]?=some c∧qZ ι g c e:=by
 have a:=(bw.1 b).1;rw[h.len] at a;exact⟨l[j],ai a,DF.get h (ai a) b⟩
theorem dU:∀{l es:List MapEntry},DF ι g l es→es.map (·.born)=l.map (·.born)
 |[],[],_=>rfl
 |e::l,e'::es,⟨h,k⟩=>by
  rw[bv,bv,dU k,h.2.1]
 |[],_::_,h=>h.elim
 |_::_,[],h=>h.elim
theorem Ba.pJ{r1 id r2 id2 r3:Nat}{k d z M de:Tmp}{α:Type}(Lf:α→Frame)(Hf:α→Heap)(inv:List Nat→α→Prop)(s0:α)
 (ht:E.P.underlying T=some (.map kt et)) (hx:AY E.Γ L x=some (.mref b)) (hb:bn≤C9) (hbm:hget H b=some (.KF ks cs))
 (h0:inv [] s0) (J:Xz (IJ L (some k) (.mref b)) H nx (Lf s0) (Hf s0) C9)
 (hLd:Gf L d=none) (hL:∀s,Gf (Lf s) k=some (.mref b)∧Gf (Lf s) z=none∧Gf (Lf s) M=none)
 (hH:∀V s,inv V s→hget (Hf s) b=some (.KF ks cs)) (hl:ks.length=cs.length)
 (Y:A.toList=⟨some de,.entry (.tmp d),aa5,p5,f5,none⟩::tl) (hkd:keeps d (.seq (.region r3 A false) rest)=true) (hk0:keeps k (.seq (.region r3 A false) rest)=true)
 (hne:k≠d∧z≠d∧z≠k∧M≠d∧M≠k∧de≠d)
 (hs:∀V s i kk c,inv V s→V.Nodup→i∉V→ks[i]?=some kk→cs[i]?=some c→Cc E n bn A tl (IJ (Lf s) (some de) (.DK [.p kk,c])) (Hf s) C9 fun L' H' nx' =>
  Ba E n bn rest L' H' nx' (Bj id2 (Aj (fun L' H' nx'=>∃s',inv (V++[i]) s'∧Xz L' H' nx' (Lf s') (Hf s') C9) (Bj id Q))))
 (he:∀V s,inv V s→V.Nodup→(∀i,i<cs.length→i∈V)→(∀i∈V,i<cs.length)→Q .normal (Lf s) (Hf s) C9) :
 Ba E n bn (.seq (.region r1 #[⟨some k,.move x,aa1,p1,f1,none⟩,⟨some d,.range T (.tmp k),a2,p2,f2,none⟩] false)
  (.block id (.loop (.seq (.region r2 #[⟨some z,.next (.tmp d) false,a3,p3,f3,none⟩,⟨some M,.extract (.tmp z) 0,a4,p4,f4,none⟩] false) (.seq (.cond (.tmp M) .skip (.exit id)) (.block id2 (.seq (.region r3 A false) rest))))))) L H nx Q:=by
 intro hsn hok hfl B hB m F σ t h1 h2 h3 ι ac w S R hR;simp only[codeOk,Bool.and_eq_true] at hok;simp only[flat,Bool.true_and,Bool.and_true,Bool.and_eq_true] at hfl;obtain⟨⟨hok1,_⟩,⟨hok2,_⟩,_,⟨c8o,_⟩,hokr⟩:=hok;have d7c:=hfl;obtain⟨hn1,hn2,hn3,hn4,hn5,hn6⟩:=hne;have ho1:=fun o ho=>DV (bl.1 hok1 o ho)
 have ho2:=fun o ho=>DV (bl.1 hok2 o ho)
 have ho3:∀o∈A.toList,I5 E.G n o=true:=fun o ho=>bl.1 c8o o (by simpa using ho)
 rw[Y] at ho3;have hd0:k<n:=(ho1 ⟨some k,.move x,aa1,p1,f1,none⟩ (by simp)).2 k rfl;have hdd:d<n:=(ho1 ⟨some d,.range T (.tmp k),a2,p2,f2,none⟩ (by simp)).2 d rfl;have hdn:z<n:=(ho2 ⟨some z,.next (.tmp d) false,a3,p3,f3,none⟩ (by simp)).2 z rfl;have hdk:M<n:=(ho2 ⟨some M,.extract (.tmp z) 0,a4,p4,f4,none⟩ (by simp)).2 M rfl;have hde:de<n:=(DV (ho3 _ (bX ..))).2 de rfl;have d6k:G5 E.G x=true:=(ho1 ⟨some k,.move x,aa1,p1,f1,none⟩ (by simp)).1 x (by simp[Op.operands]);simp only[keeps,Bool.and_eq_true,Y,List.all_cons] at hkd hk0;obtain⟨d9u,r,l,f,q1,q2,q3,q4,q5,q6,q7⟩:=h1.hp b _ hbm;have hxv:ev t x=.map (some r):=(JF h1 h2 hx hbm).trans q1;have hrx:=Bz h1 h2 hx;rw[hxv] at hrx;have hvx:=KC S.1 S.2 d6k;rw[hxv] at hvx;obtain⟨C,hib,hxe⟩:∃C,ι r=some C∧ac.eval x=.map (some C.blk):=by
  have hg0:m.gen r=0:=by unfold Mem.gen;rw[q4];rfl
  generalize ac.eval x=u at hvx;cases hvx with
  |map _ c C h J=>exact⟨C,h,by rw[J hg0]⟩
 have hlen:l.length=cs.length:=by have:=q5.length;rw[aL] at this;omega
 have d6m:f=cs.length:=by rw[q7.2,hlen]
 obtain⟨es,hes,d9i⟩:∃es,w.heap[C.blk]?=some (.map es f)∧DF ι m.gen l es.toList:=by
  have g:=S.1.blk r C hib;rw[q4] at g;cases ho:w.heap[C.blk]? with
  |none=>rw[ho] at g;exact g.elim
  |some o =>
   rw[ho] at g;cases o<;>simp only[WY] at g<;>first|exact g.elim|skip
   rename_i es' c';exact⟨es',by rw[g.1],g.2⟩
 have hsz:∀{a:Act} {s:St} {ι:BJ} {w:World},Ep E.P E.G [] n s ι a w→a.tmps.size=n:=fun h=>h.2.size
 refine wpIn_seq (wpIn_region_list ?_);refine bg rfl (fun c J=>by cases J) run_move ?_;have d8c:(ac.put (some k) (ac.eval x)).tmps.size=n:=by
  show(ac.tmps.setIfInBounds k _).size=n;rw[fm];exact hsz S
 have hrun0:(execOp (ac.put (some k) (ac.eval x)).eval ⟨some d,.range T (.tmp k),a2,p2,f2,none⟩).run E.P w=.ok (.value (.pointer (some ⟨w.heap.size,0,none⟩))) (w.alloc (.mapIter (some C.blk) f #[] f)):=by
  simp only[execOp];refine H9 ?_;rw[Ql (by rw[hsz S];exact hd0),if_pos rfl,hxe];exact run_range_map w T kt et C.blk es f ht hes
 refine bg rfl (fun c J=>by cases J) hrun0 ?_;have hbel:Go.RowKit.Below w.heap.size w (w.alloc (.mapIter (some C.blk) f #[] f)):=⟨rfl,rfl,rfl,by show w.heap.size≤(w.heap.push _).size;simp,fun c J=>(by first|exact heap_alloc_old w _ J|exact heap_alloc_old w _ _ J)⟩
 have hlt:w.heap.size<(w.alloc (.mapIter (some C.blk) f #[] f)).heap.size:=by show w.heap.size<(w.heap.push _).size;simp
 have hst1:Ep E.P E.G [] n ⟨Rq (Rq t k (.map (some r))) d (.iface 0 (.int .i64 w.heap.size)),m⟩ ι ((ac.put (some k) (ac.eval x)).put (some d) (.pointer (some ⟨w.heap.size,0,none⟩))) (w.alloc (.mapIter (some C.blk) f #[] f)):=by
  refine⟨Ov S.1 hbel,?_⟩;have e1:Um [] ι m.gen n (IE t (some k) (.map (some r))) (ac.put (some k) (ac.eval x)):=S.2.put (fun d' e=>by cases e;exact hd0) hvx;exact e1.put (dst:=some d) (fun d' e=>by cases e;exact hdd) (.it _)
 have d5v:RL m F (htag H) σ nx (IJ L (some k) (.mref b)) (Rq (Rq t k (.map (some r))) d (.iface 0 (.int .i64 w.heap.size))):=by
  refine RL.other (RL.set h2 hrx) ?_ _;rw[Ew,if_neg hn1];exact hLd
 show(Code.block _ _).wpIn _ _ _ _ _ _;refine(wpIn_block (wpIn_loop_rounds (cs.length+1) ?_));have key:∀N V s,inv V s→V.Nodup→(∀i∈V,i<cs.length)→cs.length<N+V.length→∀m1 F1 U t1 O a1 w1,Ctx E.Γ m1 F1 U (Hf s) C9→RL m1 F1 (htag (Hf s)) U C9 (Lf s) t1→B.to m1 F1 U (Hf s) C9 →
  Ext ι m w O m1 w1→Ep E.P E.G [] n ⟨t1,m1⟩ O a1 w1→CO t1 d=.iface 0 (.int .i64 w.heap.size)→CO t1 k=.map (some r)→w1.heap[w.heap.size]?=some (.mapIter (some C.blk) cs.length V.toArray cs.length) →
  (∀y,y≠k→y≠d→y≠z→y≠M→y≠de→Xq y tl=true→keeps y rest=true→CO t1 y=CO t y) →
  Code.roundsIn Fence.wide 0 E.P (.seq (.region r2 #[⟨some z,.next (.tmp d) false,a3,p3,f3,none⟩,⟨some M,.extract (.tmp z) 0,a4,p4,f4,none⟩] false) (.seq (.cond (.tmp M) .skip (.exit id)) (.block id2 (.seq (.region r3 A false) rest)))) (Exit.inBlock id R) N a1 w1:=by
  intro N
  induction N with
  |zero =>
   intro V s _ hnd hV hlt;have:=Ji _ V hnd hV;omega
  |succ N ih =>
   intro V s hi hnd hV hN m1 F1 U t1 O a1 w1 c1 c2 c3 hE hS hit hmp hob hkp;rw[roundsIn_succ];refine wpIn_seq (wpIn_region_list ?_);obtain⟨d7j,d3c,d3l⟩:=hL s;obtain⟨_,rr,l1,I,g1,g2,g3,g4,g5,g6,g7⟩:=c1.hp b _ (hH V s hi);have hrr:rr=r:=by
    have hh:=c2 k _ d7j;rw[hmp] at hh;have ht':htag (Hf s) b=some .map:=by unfold htag;rw[hH V s hi];rfl
    cases hh with
    |mref _ _ h4 =>
     have:=h4 ht';rw[g1] at this;cases this;rfl
   subst hrr;obtain⟨ib1,d6a,he1⟩:∃ib1,O rr=some ib1∧ib1.blk=C.blk:=by
    obtain⟨_,ib1,k1,k2⟩:=hE.le rr C hib;have e1:m1.gen rr=0:=by unfold Mem.gen;rw[g4];rfl
    have e2:m.gen rr=0:=by unfold Mem.gen;rw[q4];rfl
    exact⟨ib1,k1,by rw[k2 (by rw[e1,e2])]⟩
   have hlen1:l1.length=cs.length:=by have:=g5.length;rw[aL] at this;omega
   have c5w:I=cs.length:=by rw[g7.2,hlen1]
   obtain⟨K,hes1,nN⟩:∃K,w1.heap[C.blk]?=some (.map K I)∧DF O m1.gen l1 K.toList:=by
    have g:=hS.1.blk rr ib1 d6a;rw[g4,he1] at g;cases ho:w1.heap[C.blk]? with
    |none=>rw[ho] at g;exact g.elim
    |some o =>
     rw[ho] at g;cases o<;>simp only[WY] at g<;>first|exact g.elim|skip
     rename_i es' c';exact⟨es',by rw[g.1],g.2⟩
   have hborn:∀{j:Nat} {e:MapEntry},K.toList[j]?=some e→e.born=j:=fun{j e} he=>by
    obtain⟨ea,k1,k2⟩:=zS nN he;rw[k2.2.1];exact c2d g7 k1
   have hold:∀x∈K.toList,x.born<cs.length:=fun x hx=>by
    obtain⟨j,hj,e⟩:=cf.1 hx;have:=hborn (j:=j) (e:=x) (by rw[ai hj,e]);rw[nN.len] at hj;omega
   have hiv:a1.eval (.tmp d)=.pointer (some ⟨w.heap.size,0,none⟩):=by
    have hh:=hS.2.val d;have e:CO (⟨t1,m1⟩:St).t d=_:=hit;rw[e] at hh;exact p8 hh
   rcases run_next_at w1 a3 w.heap.size C.blk cs.length cs.length V.toArray K I (P:=E.P) hob hes1 hold (ab _) with⟨hz,X⟩|⟨e,hel,w2,hdr,X⟩
   ·
    refine bg (v':=.tuple #[.bool false]) (w':=w1) rfl (fun c J=>by cases J) (by simp only[execOp];rw[hiv];exact H9 X) ?_;refine bg (v':=.bool false) (w':=w1) rfl (fun c J=>by cases J) (YZ (vs:=#[.bool false]) (by rw[Ql (by rw[hsz hS];exact hdn),if_pos rfl]) rfl) ?_;have hsz2:(a1.put (some z) (.tuple #[.bool false])).tmps.size=n:=by
     show(a1.tmps.setIfInBounds z _).size=n;rw[fm];exact hsz hS
    show(Code.seq _ _).wpIn _ _ _ _ _ _;refine wpIn_seq (wpIn_cond_false (by rw[Ql (by rw[hsz2];exact hdk),if_pos rfl]) (wpIn_exit ?_));show(if id=id then _ else _);rw[if_pos rfl];show R .normal _ _;have hall:∀i,i<cs.length→i∈V:=fun i hil=>gP fun hni=>by
     have hil':i<K.toList.length:=by rw[nN.len,hlen1];exact hil
     have hm:K.toList[i]∈(leftOf K V.toArray).toList:=eU.2 ⟨cR hil',by rw[hborn (ai hil')];exact hni⟩;have:=List.length_pos_of_mem hm;rw[Array.length_toList] at this;omega
    have e1:Um [] O m1.gen n (IE t1 (some z) (.tuple #[.bool false])) (a1.put (some z) (.tuple #[.bool false])):=hS.2.put (fun d' e=>by cases e;exact hdn) (.tuple [.bool false] [.bool false] rfl fun i hi=>by
     have:i=0:=by simpa using hi
     subst this;exact .bool _)
    have e2:=e1.put (dst:=some M) (v:=.bool false) (v':=.bool false) (fun d' e=>by cases e;exact hdk) (.bool _);refine hR .normal _ _ _ _ _ (he V s hi hnd hall hV) ⟨m1,F1,U,_,O,c1,((c2.other d3c (.tuple #[.bool false])).other d3l (.bool false)),c3,hE,⟨hS.1,e2⟩,fun y hy=>?_⟩;simp only[keeps,Bool.and_eq_true,Y,List.all_cons] at hy;obtain⟨y1,Z,_,⟨⟨y3,y4⟩,y5⟩⟩:=hy;simp only[List.all_nil,Bool.and_true,Bool.and_eq_true,bne_iff_ne,ne_eq,Option.some.injEq] at y1 Z y3;show CO (Rq (Rq t1 z _) M _) y=_;rw[Dt,if_neg Z.2.1,Dt,if_neg Z.1];exact hkp y (fun e=>y1.1 e.symm) (fun e=>y1.2.1 e.symm) (fun e=>Z.1 e.symm) (fun e=>Z.2.1 e.symm) (fun e=>y3 e.symm) y4 y5
   ·
    have hem:=eU.1 hel;obtain⟨i,hil,hei⟩:=cf.1 hem.1;have hei':K.toList[i]?=some e:=by rw[ai hil,hei]
    have hbi:=hborn hei';obtain⟨ea,hea,hka,hba,hpl,hva⟩:=zS nN hei';have hic:i<cs.length:=by rw[nN.len,hlen1] at hil;exact hil
    have hni:i∉V:=by rw[← hbi];exact hem.2
    have hw3:(V.toArray.push e.born)=(V++[i]).toArray:=by rw[hbi];simp
    rw[hw3] at X;rw[c5w] at X;have hS3:=b7c (o':=.mapIter (some C.blk) cs.length (V++[i]).toArray cs.length) hS.1 hdr hob rfl (fun es c J=>by cases J);have hE3:=b8x hE hdr (ab _) (.mapIter (some C.blk) cs.length (V++[i]).toArray cs.length);have hh2:w2.heap=w1.heap:=by rcases hdr with rfl|rfl<;>rfl
    have hl0:w.heap.size<w1.heap.size:=(al.1 hob).1;have d1w:(setBlock w2 w.heap.size (.mapIter (some C.blk) cs.length (V++[i]).toArray cs.length)).heap[w.heap.size]?=some (.mapIter (some C.blk) cs.length (V++[i]).toArray cs.length):=by
     show(w2.heap.setIfInBounds _ _)[_]?=_;rw[hh2,Array.getElem?_setIfInBounds_self_of_lt hl0]
    have d4o:C.blk≠w.heap.size:=fun e=>by have:=(S.1.dom rr C hib).2;omega
    have hes3:(setBlock w2 w.heap.size (.mapIter (some C.blk) cs.length (V++[i]).toArray cs.length)).heap[C.blk]?=some (.map K I):=by
     show(w2.heap.setIfInBounds _ _)[_]?=_;rw[hh2,fT (fun e=>d4o e.symm)];exact hes1
    generalize setBlock w2 w.heap.size (.mapIter (some C.blk) cs.length (V++[i]).toArray cs.length)=w3 at *;refine bg (v':=.tuple #[.bool true,e.key,e.val]) (w':=w3) rfl (fun c J=>by cases J) (by simp only[execOp];rw[hiv];exact H9 X) ?_;refine bg (v':=.bool true) (w':=w3) rfl (fun c J=>by cases J) (YZ (vs:=#[.bool true,e.key,e.val]) (by rw[Ql (by rw[hsz hS];exact hdn),if_pos rfl]) rfl) ?_;have hsz2:(a1.put (some z) (.tuple #[.bool true,e.key,e.val])).tmps.size=n:=by
     show(a1.tmps.setIfInBounds z _).size=n;rw[fm];exact hsz hS
    show(Code.seq _ _).wpIn _ _ _ _ _ _;refine wpIn_seq (wpIn_cond_true (by rw[Ql (by rw[hsz2];exact hdk),if_pos rfl]) (wpIn_skip ?_));show(Code.block _ _).wpIn _ _ _ _ _ _;refine wpIn_block (wpIn_seq (wpIn_region_list ?_));rw[Y];have hkey:Az O m1.gen ea.key e.key:=by rw[hka];exact Az.plain hpl
    have e1:Um [] O m1.gen n (IE t1 (some z) (.tuple ⟨[.bool true,ea.key,ea.val]⟩)) (a1.put (some z) (.tuple #[.bool true,e.key,e.val])):=hS.2.put (fun d' e=>by cases e;exact hdn) (.tuple _ [.bool true,e.key,e.val] rfl fun i hi=>by
     have:i=0∨i=1∨i=2:=by simp at hi;omega
     rcases this with rfl|rfl|rfl
     ·exact .bool _
     ·exact hkey
     ·exact hva)
    have e2:=e1.put (dst:=some M) (v:=.bool true) (v':=.bool true) (fun d' e=>by cases e;exact hdk) (.bool _);have hsz3:((a1.put (some z) (.tuple #[.bool true,e.key,e.val])).put (some M) (.bool true)).tmps.size=n:=e2.size;have d4q:((a1.put (some z) (.tuple #[.bool true,e.key,e.val])).put (some M) (.bool true)).eval (.tmp d)=.pointer (some ⟨w.heap.size,0,none⟩):=by
     rw[Ql (by rw[hsz2];exact hdk),if_neg hn4,Ql (by rw[hsz hS];exact hdn),if_neg hn2];exact hiv
    refine bg (v':=.tuple #[e.key,e.val]) (w':=w3) rfl (fun c J=>by cases J) (by
     simp only[execOp];rw[d4q];refine H9 (run_entry_at w3 w.heap.size C.blk cs.length V.toArray K I e ?_ hes3 hem.1 ?_)
     ·rw[hw3,c5w];exact d1w
     ·rw[dU nN,g7.1];exact gS) ?_
    have e3:=e2.put (dst:=some de) (v:=.tuple ⟨[ea.key,ea.val]⟩) (v':=.tuple #[e.key,e.val]) (fun d' e=>by cases e;exact hde) (.tuple _ [e.key,e.val] rfl fun i hi=>by
     have:i=0∨i=1:=by simp at hi;omega
     rcases this with rfl|rfl
     ·exact hkey
     ·exact hva)
    have hik:i<ks.length:=by omega
    have hkk:ks[i]?=some ks[i]:=ai hik;have hcc:cs[i]?=some cs[i]:=ai hic;have hrk:RF m1 F1 ks[i] ea.key:=Du.at g5 hkk (by rw[ax,hea];rfl);have hrc:RP m1 F1 (htag (Hf s)) U C9 cs[i] ea.val:=Dw.at g6 hcc (by rw[ax,hea];rfl);have d6z:RL m1 F1 (htag (Hf s)) U C9 (IJ (Lf s) (some de) (.DK [.p ks[i],cs[i]])) (IE (IE (IE t1 (some z) (.tuple ⟨[.bool true,ea.key,ea.val]⟩)) (some M) (.bool true)) (some de) (.tuple ⟨[ea.key,ea.val]⟩)) :=
     RL.set ((c2.other d3c _).other d3l _) (.DK (.cons (.p hrk) (.cons hrc .nil)))
    refine hs V s i _ _ hi hnd hni hkk hcc hsn (fun o ho=>ho3 o (am _ ho)) B hB m1 F1 U _ c1 d6z c3 O _ w3 ⟨hS3,e3⟩ _ fun L' H' nx' a' w' q hw=>?_
    obtain⟨m4,F4,σ4,t4,ι4,d1,d2,d3,hE4,hS4,hk4⟩:=hw.ex;refine q hsn hokr d7c B hB m4 F4 σ4 t4 d1 d2 d3 ι4 a' w' hS4 _ fun e5 L5 H5 nx5 b3v w5 q5 hw5=>?_
    obtain⟨m6,F6,σ6,t6,ι6,x1,x2,x3,hE6,hS6,hk6⟩:=hw5.ex;have d2k:=Ext.trans hS3 hE4 hE6;have hE0:=Ext.trans S.1 hE3 d2k;have d7i:=b8s hS3 d2k d1w rfl (fun es c J=>by cases J);have ht6:∀y,y≠z→y≠M→y≠de→Xq y tl=true→keeps y rest=true→CO t6 y=CO t1 y:=fun y y1 Z y3 y4 y5=>by
     rw[hk6 y y5,hk4 y y4];simp only[IE];rw[Dt,if_neg (fun e=>y3 e.symm),Dt,if_neg (fun e=>Z e.symm),Dt,if_neg (fun e=>y1 e.symm)]
    have hd6:CO t6 d=.iface 0 (.int .i64 w.heap.size):=by rw[ht6 d (fun e=>hn2 e.symm) (fun e=>hn4 e.symm) (fun e=>hn6 e.symm) hkd.1.2 hkd.2];exact hit
    have hm6:CO t6 k=.map (some rr):=by
     have:de≠k:=fun e=>by
      have:=hk0.1.1;simp[e] at this
     rw[ht6 k (fun e=>hn3 e.symm) (fun e=>hn5 e.symm) (fun e=>this e.symm) hk0.1.2 hk0.2];exact hmp
    have c9z:∀y,y≠k→y≠d→y≠z→y≠M→y≠de→Xq y tl=true→keeps y rest=true→CO t6 y=CO t y:=fun y y1 Z y3 y4 y5 y6 y7=>(ht6 y y3 y4 y5 y6 y7).trans (hkp y y1 Z y3 y4 y5 y6 y7)
    have hout:∀y,keeps y (.seq (.region r1 #[⟨some k,.move x,aa1,p1,f1,none⟩,⟨some d,.range T (.tmp k),a2,p2,f2,none⟩] false)
     (.block id (.loop (.seq (.region r2 #[⟨some z,.next (.tmp d) false,a3,p3,f3,none⟩,⟨some M,.extract (.tmp z) 0,a4,p4,f4,none⟩] false) (.seq (.cond (.tmp M) .skip (.exit id)) (.block id2 (.seq (.region r3 A false) rest)))))))=true→CO t6 y=CO t y:=fun y hy=>by
     simp only[keeps,Bool.and_eq_true,Y,List.all_cons] at hy;obtain⟨y1,Z,_,⟨⟨y3,y4⟩,y5⟩⟩:=hy;simp only[List.all_nil,Bool.and_true,Bool.and_eq_true,bne_iff_ne,ne_eq,Option.some.injEq] at y1 Z y3;exact c9z y (fun e=>y1.1 e.symm) (fun e=>y1.2.1 e.symm) (fun e=>Z.1 e.symm) (fun e=>Z.2.1 e.symm) (fun e=>y3 e.symm) y4 y5
    have fin:∀e',Aj (fun L' H' nx'=>∃s',inv (V++[i]) s'∧Xz L' H' nx' (Lf s') (Hf s') C9) (Bj id Q) e' L5 H5 nx5→Exit.then (Code.roundsIn Fence.wide 0 E.P (.seq (.region r2 #[⟨some z,.next (.tmp d) false,a3,p3,f3,none⟩,⟨some M,.extract (.tmp z) 0,a4,p4,f4,none⟩] false) (.seq (.cond (.tmp M) .skip (.exit id)) (.block id2 (.seq (.region r3 A false) rest)))) (Exit.inBlock id R) N) (Exit.inBlock id R) e'.toExit b3v w5:=fun e' qq=>by
     cases e' with
     |normal =>
      obtain⟨s',i1,i2⟩:=qq;have hnd':(V++[i]).Nodup:=dd.2 ⟨hnd,by simp,fun a ha b hb=>by
       rw[aM] at hb;subst hb;exact fun e=>hni (e▸ha)⟩
      refine ih (V++[i]) s' i1 hnd' (fun j hj=>?_) (by rw[ar];show _<N+(V.length+1);omega) m6 F6 σ6 t6 ι6 b3v w5 (i2.ctx x1) (i2.rl x2) (i2.step (by omega) x3) hE0 hS6 hd6 hm6 d7i c9z;rcases bt.1 hj with h|h
      ·exact hV j h
      ·rw[aM] at h;omega
     |ret=>exact hR .ret L5 H5 nx5 b3v w5 qq ⟨m6,F6,σ6,t6,ι6,x1,x2,x3,hE0,hS6,fun y hy=>hout y hy⟩
     |exit j =>
      show(if j=id then _ else _);simp only[Aj,Bj] at qq;split
      ·rename_i e;rw[if_pos e] at qq
       exact hR .normal L5 H5 nx5 b3v w5 qq ⟨m6,F6,σ6,t6,ι6,x1,x2,x3,hE0,hS6,fun y hy=>hout y hy⟩
      ·rename_i e;rw[if_neg e] at qq
       exact hR (.exit j) L5 H5 nx5 b3v w5 qq ⟨m6,F6,σ6,t6,ι6,x1,x2,x3,hE0,hS6,fun y hy=>hout y hy⟩
    cases e5 with
    |normal=>exact fin .normal q5
    |ret=>exact fin .ret q5
    |exit j =>
     show(if j=id2 then _ else _);simp only[Bj] at q5;split
     ·rename_i e;rw[if_pos e] at q5;exact fin .normal q5
     ·rename_i e;rw[if_neg e] at q5;exact fin (.exit j) q5
 refine key (cs.length+1) [] s0 h0 cy (fun i hi=>by cases hi) (by simp) m F σ _ ι _ _ (J.ctx h1) (J.rl d5v) (J.step (by omega) h3) (Yx (Ext.refl _ _ _) hbel) hst1 ?_ ?_ ?_ fun y y1 Z _ _ _ _ _=>?_
 ·rw[Dt,if_pos rfl]
 ·rw[Dt,if_neg (fun e=>hn1 e.symm),Dt,if_pos rfl]
 ·rw[heap_alloc_new,d6m]
 ·rw[Dt,if_neg (fun e=>Z e.symm),Dt,if_neg (fun e=>y1 e.symm)]
end Go.Vm
namespace Go.Vm
section
open Go.Am
variable {E:Env}{n bn:Nat}{L:Frame}{H:Heap}{nx:Nat}
def GY(E:Env)(g:FuncId)(xs:List FV)(r:PV):Prop:=F8 E g (xs.map .p) [] 0 fun r' H' nx'=>r'=r∧H'=[]∧nx'=0
theorem GY.enter(g:E.P.funcs[f]?=some fn)(i:fn.body=some c)(b:IV E.G fn c=true)(d:flat c=true)(j:xs.length≤fn.ntmps)
 (h:Ba E fn.ntmps 0 c (CS 0 (xs.map .p)) [] 0 (Done E.P fn.results.toList 0 fun e H' a=>e=r∧H'=[]∧a=0)):GY E f xs r:=F8.enter g i b d (by grind) h
theorem pZ{dst:Option Tmp}
 (b:Enters E.P g) (e:AY E.Γ L c=some (.clo g [] [])) (h:evF E.Γ L args.toList=some xs) (f:F8 E g (xs.map .p) [] 0 d)
 (j:∀r H' a,d r H' a→Cc E n bn ops l (IJ L dst (r.rn (rho [] nx))) (news 0 (rho [] nx) H' H) (nx+a) R):Cc E n bn ops (⟨dst,.call { callee:=.value c,args:=args,argTypes:=i },ty,pos,af,none⟩::l) L H nx R:=by
 refine Cc.iG (ns:=[]) (Hc:=[]) (Bo:=xs.map .p) (ac:=xs.map .p) b e (aG h) ?_ (eL _ _) trivial trivial cy (by simp) f fun r H' a q=>?_
 ·rw[n7,eI,dt];exact .refl _
 ·rw[TV];grind
theorem Cc.fn{dst:Option Tmp}
 (d:AY E.Γ L b=some (.clo g [] [])) (f:evF E.Γ L args.toList=some xs) (e:GY E g xs r) (a:Enters E.P g) (c:∀ρ,r.rn ρ=r) (q:Cc E n bn ops l (IJ L dst r) H nx R):Cc E n bn ops (⟨dst,.call { callee:=.value b,args:=args,argTypes:=h },ty,pos,af,none⟩::l) L H nx R :=
 pZ a d f e fun r' H' nx' ⟨h1,h2,h3⟩=>by subst h1;subst h2;subst h3;rw[c];exact q
theorem Ba.EY(N:Nat)(L0:Frame)(H0:Heap)(c:Nat→Frame→Frame)(d:Nat→Heap→Heap)(C9:Nat)(l:bn≤C9)(j:C9≤nx)(o:GZ C9 (c 0 L0) L)(m:BN C9 (d 0 H0) H)
 (g:∀k,k<N→Ba E n bn b (c k L0) (d k H0) C9 (Aj (fun f H' a=>C9≤a∧GZ C9 (c (k+1) L0) f∧BN C9 (d (k+1) H0) H') Q))
 (r:Ba E n bn b (c N L0) (d N H0) C9 (Aj (fun _ _ _=>False) Q)):Ba E n bn (.loop b) L H nx Q :=
 Ba.D7 (fun k=>c k L0) (fun k=>d k H0) C9 (fun k=>k≤N) (fun k=>N-k) 0 l (ao _) ⟨j,o,m⟩ fun k p=>by
  rcases aq k N with h|h
  ·refine(g k h).mono fun e f H' a q=>?_
   cases e with
   |normal=>exact⟨k+1,h,by omega,⟨q.1,q.2.1,q.2.2⟩⟩
   |ret=>exact q
   |exit i=>exact q
  grind
end
section
open Go.Am Go.ChangeShapes Go.WideShapes Go.ChangeAt Go.WideMaps Go.WideElems
variable {P:Program}{H:Type}{enc:TypeId×Value→H}{W:World}{held:Bool}
theorem d0h{b0 F:Nat}
 (hL:laidMet P laid W) (C:DataW.TrodAll enc P W 0 (fun _=>true) held d args.toList ds ps) (Z:∀(j:Nat) t v,d[j]?=some t→args.toList[j]?=some v→Value.okWide P W r b0 t v)
 (X:P.follows .mixedOrders=true) (u:d.all (XQ P F)=true)
 (hO:EI P (Au P F laid) O)
 (hp:∀j a xs,b5y P (j+F) d a→Io (fun(tf:TypeId×List FV) x=>dA P tf.1 tf.2=some x) (d.zip a) xs→GY (DY P F laid O) f xs (.p (.bool true))) :
 Calls P f args W fun e J=>e=.returned (.bool true)∧Go.RowKit.Below W.heap.size W J:=by
 obtain⟨N,hN⟩:=b9c d _ ds ps C;obtain⟨j,hj⟩:∃j,max N F=j+F:=⟨max N F-F,by omega⟩
 obtain⟨K,m1,a,xs,T,A,S,R,q5,M⟩:=YE d _ ds (fun t ht=>a6k (by omega) (aE.1 u t ht)) (hN (max N F) (by omega)) (AX P F laid);rw[hj] at A;have Uk:Ctx (DY P F laid O).Γ m1 (fun c=>c<m1.size) (fun _=>undef) [] 0:=by
  refine⟨fun _ h=>h,fun b x o=>(by cases o),fun b b' x x' c o=>(by cases o),fun g vs e m=>?_⟩;simp only[DY,gam] at m;split at m
  ·rename_i k
   simp only[Option.map_eq_some_iff,Prod.mk.injEq] at m;obtain⟨⟨e',l⟩,I,rfl,rfl⟩:=m;have i:g<(AX P F laid).size:=by rw[Pv];exact k
   exact⟨by omega,by rw[M g i,DJ k,I],PO I⟩
  ·cases m
 obtain⟨ι,hs,y⟩:=oC (F:=F) hL;obtain⟨q,B,o2,V,U⟩:=Ye d _ ds ps C Z ι _ m1 K hs y T;refine(hp j a xs A S ⟨hO,X⟩ m1 _ _ K Uk (ma R) q W args B U).mono fun e J ⟨v',he,r0,H',nx',m',F',σ',v,ι2,hq,_,hrv,_,hx,hs2,QS⟩=>?_
 obtain⟨rfl,_,_⟩:=hq;have s:v=.bool true:=by cases hrv with|p h=>cases h;rfl
 subst s;have:=QS.BL (v:=.bool true) rfl;subst this;exact⟨he,⟨hx.os,hx.tape,hx.output,hx.heap,fun c z=>hx.frame c z fun b Y o _=>.inl (V b (B.dom b Y o).1)⟩⟩
end
section
open Go.Am
theorem r9{E:Env}{L:Frame}{H:Heap}{nx:Nat}{Q:PV→Heap→Nat→Prop}{w:Bool}{dst:Option Tmp}{ty:TypeId}{pos:String}{af:Array Edge}{gd:Option (Nat×Bool)}{α:Type}{_:Enc α}{t:TypeId}{x a:Operand}{e:TypeId}{l:List α}{b n j:Nat}{z:Bool}{k:IntKind}{i:Nat}(c:AY E.Γ L x=some (.vec b n 0 j))(g:hget H b=some (.vec e (cells l) n z))(f:AY E.Γ L a=some (.p (.int k (i:Int))))
 (d:elemSize E.P t=some (Enc.size α)) (h:i<j) (q:Q (.Fb b n (i*Enc.size α)) H nx):Aa E w ⟨dst,.indexAddr t x a,ty,pos,af,gd⟩ L H nx Q :=
 ph c g f d (by omega) (by omega) (by grind)
end
section
open Go.Am
def Hold(p:Prop):Prop:=p
theorem Hold.of(h:Hold p):p:=h
theorem Hold.go(h:p):Hold p:=h
theorem pD(d:Tmp)(h:Cc E n bn ops (⟨some d,op,ty,pos,af,none⟩::l) L H nx R):Cc E n bn ops (⟨some d,op,ty,pos,af,none⟩::l) L H nx R:=h
end
end Go.Vm
namespace Go.Proofs.YthlffjlbidibdaaGreatDoor
open Go Go.Am Go.Vm Go.Pie Go.Sch
attribute [local irreducible] Aa Ah Ai Ad AL Ak Bf BK Bj Aj Vm.Done Bv AP Nl Ba Cc Et GY F8 Hold
attribute [local irreducible] Cb Bg D5 DU EF AV CB
def GH(O:List (List Int))(m:Nat)(j:Nat):List (List Int):=O++(O.take j).map fun x=>x.set m 1
theorem b1y(O:List (List Int))(m:Nat):GH O m 0=O:=by simp[GH]
theorem b9k(O:List (List Int))(m:Nat):GH O m O.length=O++O.map fun x=>x.set m 1:=by simp[GH]
theorem nM(O:List (List Int))(m:Nat)(h:j<O.length):GH O m (j+1)=GH O m j++[(gi O j).set m 1]:=by
 unfold GH;rw[EH h,bh,← cz];rfl
theorem yA(O:List (List Int))(m:Nat)(h:j≤O.length):(GH O m j).length=O.length+j:=by
 unfold GH;grind
theorem c1t(O:List (List Int))(m j:Nat)(h:i<O.length):gi (GH O m j) i=gi O i:=by
 unfold GH gi;grind
def ow(L:List (List Int)):List OwL:=L.map OwL.mk
theorem a1z(L:List (List Int)):(ow L).length=L.length:=by simp[ow]
theorem XF(L R:List (List Int)):ow (L++R)=ow L++ow R:=by simp[ow]
theorem c5b(L:List (List Int))(h:i<L.length):gi (ow L) i=⟨gi L i⟩:=by
 unfold ow gi;grind
theorem cells_at(l:List Int)(h:i<l.length):(cells l)[i]?=some (.int .i64 (gi l i)):=by
 have:∀l:List Int,cells l=l.map fun x=>FV.int .i64 x:=by
  intro l
  induction l with
  |nil=>rfl
  |cons a l b=>rw[bv,← b];rfl
 unfold gi;grind
theorem a5y(L:List (List Int))(m j:Nat):(cells (ow (GH L m j))).take (L.length*1)=cells (ow L):=by
 have h:∀R:List OwL,cells R=R.map fun x=>FV.own 3 (cells x.l) x.l.length:=by
  intro R
  induction R with
  |nil=>rfl
  |cons a l b=>rw[bv,← b];rfl
 unfold GH;rw[XF,h,h,bh,fy,gm (by simp[ow]),dz (by simp[ow])]
theorem b1n(q:Qu)(o:IQ q)(b:t<(Bc q.p).length){l:List Int}(d:a8f q t l)(e:k<kQ q t)(r:Ol q t k=true)(m:x∈Gw (Ol q t) (fQ q t) l k):x.length=q.p.notes.length∧gi x (fQ q t k)=0:=by
 have c:=Zv q o;have a:=d.len;have u:=c.rng t b k e;have g:=(OA (nw:=Ol q t) (f:=fQ q t) (l:=l) k (fun j i h y=>c.inj t b j i (by omega) (by omega)) (fun j s=>by rw[a];exact c.rng t b j (by omega)) (fun j s=>d.zero j (by omega)) x).1 m;refine⟨g.1.trans a,?_⟩;rw[(g.2 _ (by omega)).2 fun⟨j,h1,_,h3⟩=>by
  have:=c.inj t b j k (by omega) e h3;omega]
 exact d.zero k e r
theorem b0h(q:Qu)(g:IQ q)(b:t<(Bc q.p).length){l:List Int}(c:a8f q t l)(e:x∈Gw (Ol q t) (fQ q t) l (kQ q t)):x.length=q.p.notes.length:=by
 have d:=Zv q g;have a:=c.len;have i:=(OA (nw:=Ol q t) (f:=fQ q t) (l:=l) (kQ q t) (d.inj t b) (fun j h=>by rw[a];exact d.rng t b j h) c.zero x).1 e;omega
theorem c5u:∀L:List (List Int),IK (cells (ow L)) (cells L)
 |[]=>.refl _
 |a::L=>.cons .own (c5u L)
theorem c1h
 (g:AY env.Γ L e=some (.clo 78 a cs)) (i:evs env.Γ L args.toList=some xs) (b:Tryz.f78.body=some c) (f:(a++xs++cs).length≤Tryz.f78.ntmps)
 (h:Ad env nx c (CS 0 (a++xs++cs)) H nx (AP env.P Tryz.f78.results.toList Q)):Aa env true ⟨dst,.call { callee:=.value e,args:=args,argTypes:=j },ty,pos,af,gd⟩ L H nx Q:=by
 have d:(match Tryz.f78.body with|some c=>IV env.G Tryz.f78 c|none=>false)=true:=by kernel_rfl
 rw[b] at d;exact Aa.inline rfl g i (Af (by decide)) Tryz.func78 b d f h
theorem c2w
 (g:AY env.Γ L e=some (.clo 122 a cs)) (i:evs env.Γ L args.toList=some xs) (b:Tryz.f122.body=some c) (f:(a++xs++cs).length≤Tryz.f122.ntmps)
 (h:Ad env nx c (CS 0 (a++xs++cs)) H nx (AP env.P Tryz.f122.results.toList Q)):Aa env true ⟨dst,.call { callee:=.value e,args:=args,argTypes:=j },ty,pos,af,gd⟩ L H nx Q:=by
 have d:(match Tryz.f122.body with|some c=>IV env.G Tryz.f122 c|none=>false)=true:=by kernel_rfl
 rw[b] at d;exact Aa.inline rfl g i (Af (by decide)) Tryz.func122 b d f h
theorem Wp(q:Qu)(X:IQ q)(t:Nat)(ht:t<(Bc q.p).length)(hM:kQ q t≤12)(l:List Int)(hl:a8f q t l) :
 GY env 41 [.agg (Enc.enc q),.agg (Enc.enc (Oj q t)),.lst 3 (cells l) l.length] (.p (.lst 41 (cells (qH q t l)) (qH q t l).length)):=by
 have n1:=X.p.notes;have hll:=hl.len;have hcl:=vU l (by omega);have hN:VB q (Oj q t).notes:=G7 ht;have hNl:(Oj q t).notes.length≤1000:=bV X ht;have hm:=V4 q X (Oj q t) hN hNl;have V:=fun j o=>Qm q ht (j:=j) o
 have hK:kQ q t=(Jm q (Oj q t).notes).length:=rfl;have hnw:∀j,Ol q t j=c3q q (Oj q t) (gi (Jm q (Oj q t).notes) j):=fun j=>rfl
 have hMg:Jm q (Dy q t)=Jm q (Oj q t).notes:=rfl;rw[hMg] at V;have S:=hl.zero;unfold qH chs;rw[hK] at V hM S ⊢;have z:∀k,k≤(Jm q (Oj q t).notes).length→1≤(Gw (Ol q t) (fQ q t) l k).length∧(Gw (Ol q t) (fQ q t) l k).length≤4096:=fun k J=>by
  obtain⟨B,g2⟩:=jF (Ol q t) (fQ q t) l k;exact⟨B,an g2 (aD (by decide) (show k≤12 by omega))⟩
 have g:∀k,k<(Jm q (Oj q t).notes).length→Ol q t k=true→∀j,j<(Gw (Ol q t) (fQ q t) l k).length→(gi (Gw (Ol q t) (fQ q t) l k) j).length=q.p.notes.length∧gi (gi (Gw (Ol q t) (fQ q t) l k) j) (fQ q t k)=0:=fun k J hn j o=>b1n q X ht hl J hn (Dj o)
 have d1y:∀x∈Gw (Ol q t) (fQ q t) l (Jm q (Oj q t).notes).length,x.length=q.p.notes.length:=fun x hx=>b0h q X ht hl hx
 generalize Jm q (Oj q t).notes=M at *;refine GY.enter Tryz.func41 rfl (by kernel_rfl) (by kernel_rfl) (by simp[Tryz.ntmps41]) ?_
 repeat' (first|apply eN|apply Ba.to|apply Ba.block|refine a6 hcl ?_|refine a6 hm ?_|refine go1 ?_|refine bi ?_|fail)
 all_goals try omega
 apply Ba.EY (M.length) [(3,_),(4,_),(18,_),(19,_)] [(0,_),(1,_)] (fun k r=>(20,.p (.int .i64 (k:Int)))::(7,.vec 2 (Gw (Ol q t) (fQ q t) l k).length 0 (Gw (Ol q t) (fQ q t) l k).length)::r) (fun k r=>(2,.vec 41 (cells (ow (Gw (Ol q t) (fQ q t) l k))) (Gw (Ol q t) (fQ q t) l k).length false)::r) 3
 ·first|omega|decide
 ·first|omega|decide
 ·exact Ns
 ·exact O9
 ·intro k J
  obtain⟨m,B,g2,g3,g4,g5⟩:=V k J;have hOk:=z k (by omega);have d0s:=g k J;have e1:Gw (Ol q t) (fQ q t) l (k+1)=if Ol q t k=true then Gw (Ol q t) (fQ q t) l k++(Gw (Ol q t) (fQ q t) l k).map (fun x=>x.set (fQ q t k) 1) else Gw (Ol q t) (fQ q t) l k:=rfl
  have T:=hnw k;rw[g2] at e1 d0s;rw[B] at T;rw[e1];clear g z;generalize Gw (Ol q t) (fQ q t) l k=O at *;by_cases hn:(gi q.p.notes m).s=(Oj q t).s
  ·have u:Ol q t k=true:=by rw[T];exact decide_eq_true hn
   rw[if_pos u];have g:=d0s u
   repeat' (first|apply eN|apply k9|apply Et.normal|apply Ba.to|apply Ba.block|apply Ba.skip|(apply j4;rfl)|(apply dl (l:=q.p.notes) (i:=m);rfl;exact congrArg (fun b=>some (PV.p (.int .i64 b))) B;rfl;omega;rfl)|refine b9 ?_|(apply eC;rfl;rfl;rfl)|refine go2 ?_|refine a7 ?_|(intro _;try omega))
   all_goals try omega
   all_goals try contradiction
   refine Ba.D7 (fun s:Nat×Bool=>[(3,.ref 0 0),(4,.ref 1 0),(18,.p (.lst 3 (cells M) M.length)),(19,.p (.int .i64 (M.length:Int))),(20,.p (.int .i64 (k:Int))),(9,.p (.int .i64 (gi M k))),(34,bif s.2 then .vec 2 (O.length+s.1) 0 O.length else .p (.lst 41 (cells (ow O)) O.length)),(35,.p (.int .i64 (O.length:Int))),(36,.p (.int .i64 (s.1:Int))),(7,.vec 2 (O.length+s.1) 0 (O.length+s.1))])
    (fun s=>[(0,yP q),(1,slB (Oj q t)),(2,.vec 41 (cells (ow (GH O m s.1))) (O.length+s.1) false)]) 3 (fun s=>s.1≤O.length) (fun s=>O.length-s.1) (0,true) (by decide) (ao _) ⟨by decide,?_,?_⟩ ?_
   ·exact Dh
   ·simp only[b1y]
    exact DT
   rintro⟨j,att⟩ o;simp only at o ⊢;by_cases f:j<O.length
   ·obtain⟨x1,x2⟩:=g j f
    have hgj:gi (ow (GH O m j)) j=⟨gi O j⟩:=by rw[c5b _ (by rw[yA O m (by omega)];omega),c1t _ _ _ f]
    have hgo:gi (ow O) j=⟨gi O j⟩:=c5b _ f;have C:=RX (gi O j) (by omega) (by omega);have I:(cells (gi O j))[m]?=some (.int .i64 0):=by rw[cells_at _ (by omega),x2]
    have hlr:=yA O m (j:=j) (by omega);have e0v:=a1z O;have e:(ow (GH O m j)).length=O.length+j:=by rw[a1z,hlr]
    cases att
    ·have Y:gi O j=(gi (ow O) j).l:=by rw[hgo]
     have e2:ow (GH O m (j+1))=ow (GH O m j)++[⟨(gi (ow O) j).l.set m 1⟩]:=by rw[nM O m f,XF,← Y];rfl
     rw[Y] at C I x1
     repeat' (first|(refine Ba.at 10 ?_;apply ki)|(refine j9 11 ?_;refine ju (m9 12 rfl rfl) ?_;first|apply Ba.region|apply ob)|(refine eB 41 ?_;refine c7 (Ap.le 40 (v0:=.p (.lst 3 (cells (gi (ow O) j).l) (gi (ow O) j).l.length)) rfl (.p .own)) ?_)|((apply pB (i:=m);rfl;exact congrArg (fun b=>some (PV.p (.int .i64 b))) B;rfl;omega;exact I;rfl;rfl;rfl))|apply eN|apply Ba.region|apply Et.normal|apply Ba.to|apply Ba.block|apply Ba.skip|(apply j4;rfl)|apply Cc.nil|apply hU|apply Bj.normal|apply Ah.nil|apply c9|(apply dl (l:=ow O) (i:=j);rfl;rfl;rfl;omega;exact a1z O)|(apply nv (l:=ow (GH O m j)) (a:=OwL.mk ((gi (ow O) j).l.set m 1));rfl;rfl;rfl;rfl;exact congrArg (fun n=>[FV.own 3 (cells ((gi (ow O) j).l.set m 1)) n]) List.length_set.symm;exact e;rfl;rfl;(intro _ h;cases h);rfl;rfl;rfl;decide;decide;omega)|(apply jz;rfl;rfl;exact C)|(apply g9 (l:=(gi (ow O) j).l) (i:=m);rfl;rfl;exact congrArg (fun b=>some (PV.p (.int .i64 b))) B;rfl;omega)|(apply kz (l:=(gi (ow O) j).l) (i:=m) (y:=(1:Int));rfl;rfl;rfl;trivial;rfl;rfl;rfl;decide;omega)|(apply Aa.assign;rfl)|(apply Aa.move;rfl)|(apply jl;rfl;rfl;omega)|refine a7 ?_|(apply Aa.load;rfl;rfl)|refine bi ?_|(intro _;try omega))
     all_goals try omega
     have e3:O.length+(j+1)=(ow (GH O m j)).length+1:=by omega
     refine Aj.normal ⟨(j+1,false),by show j+1≤O.length;omega,by show O.length-(j+1)<O.length-j;omega,⟨by decide,?_,?_⟩⟩
     ·dsimp only
      rw[e3];exact Dh
     ·dsimp only
      rw[e3,e2];exact DT
    ·have Y:gi O j=(gi (ow (GH O m j)) j).l:=by rw[hgj]
     have e2:ow (GH O m (j+1))=ow (GH O m j)++[⟨(gi (ow (GH O m j)) j).l.set m 1⟩]:=by rw[nM O m f,XF,← Y];rfl
     rw[Y] at C I x1;have e4:cells (ow (GH O m (j+1)))=cells (ow (GH O m j))++[FV.own 3 (cells ((gi (ow (GH O m j)) j).l.set m 1)) (gi (ow (GH O m j)) j).l.length]:=by
      rw[e2,ET];refine congrArg (fun x=>cells (ow (GH O m j))++x) ?_;show [FV.own 3 (cells ((gi (ow (GH O m j)) j).l.set m 1)) ((gi (ow (GH O m j)) j).l.set m 1).length]=_;rw[cX]
     repeat' (first|(refine Ba.at 10 ?_;apply ki)|(refine eB 41 ?_;refine c7 (Ap.le 40 (v0:=.p (.lst 3 (cells (gi (ow (GH O m j)) j).l) (gi (ow (GH O m j)) j).l.length)) rfl (.p .own)) ?_)|((refine j9 11 ?_;refine ju (m9 12 rfl rfl) ?_;apply Ba.qP))|((refine pD 51 ?_;refine Hold.of ?_))|((apply pB (i:=m);rfl;exact congrArg (fun b=>some (PV.p (.int .i64 b))) B;rfl;omega;exact I;rfl;rfl;rfl))|apply eN|apply Et.normal|apply Ba.to|apply Ba.block|apply Ba.skip|(apply j4;rfl)|apply Cc.nil|apply hU|apply Ah.nil|apply c9|(apply r9 (l:=ow (GH O m j)) (i:=j);rfl;rfl;rfl;rfl;omega)|(apply li (l:=ow (GH O m j)) (i:=j);rfl;rfl;omega;rfl)|(apply jz;rfl;rfl;exact C)|(apply g9 (l:=(gi (ow (GH O m j)) j).l) (i:=m);rfl;rfl;exact congrArg (fun b=>some (PV.p (.int .i64 b))) B;rfl;omega)|(apply kz (l:=(gi (ow (GH O m j)) j).l) (i:=m) (y:=(1:Int));rfl;rfl;rfl;trivial;rfl;rfl;rfl;decide;omega)|(apply Aa.assign;rfl)|(apply Aa.move;rfl)|refine a7 ?_|refine bi ?_|(intro _;try omega))
     all_goals try omega
     refine Hold.go ?_;refine pT (r:=34) (i:=_) (k:=1) (xs:=[FV.own 3 (cells ((gi (ow (GH O m j)) j).l.set m 1)) (gi (ow (GH O m j)) j).l.length]) (j:=O.length) (N:=O.length+j) rfl rfl ?_ rfl ?_ ?_ rfl rfl (by intro _ h;cases h) rfl rfl (by decide) ?_ ?_ (by decide) ?_ ?_
     ·refine uG.all rfl rfl ?_
      rfl
     ·omega
     ·omega
     ·exact qM (by omega) (by decide)
     ·rw[BD,e];rfl
     ·repeat' (first|apply Ba.region|apply Et.normal|apply Cc.nil|apply hU|refine go1 ?_|fail)
      refine Aj.normal ⟨(j+1,true),by show j+1≤O.length;omega,by show O.length-(j+1)<O.length-j;omega,⟨by decide,?_,?_⟩⟩
      ·dsimp only
       try rw[← a5y O m j]
       exact Dh
      ·dsimp only
       rw[e4];exact DT
     ·repeat' (first|apply Ba.region|apply Et.normal|apply Cc.nil|apply hU|refine go1 ?_|fail)
      refine Aj.normal ⟨(j+1,false),by show j+1≤O.length;omega,by show O.length-(j+1)<O.length-j;omega,⟨by decide,?_,?_⟩⟩
      ·dsimp only
       try rw[← a5y O m j]
       exact Dh
      ·dsimp only
       rw[e4];exact DT
   ·have hje:j=O.length:=by omega
    have e5:(O++O.map (fun x=>x.set m 1)).length=O.length+O.length:=by simp
    subst hje
    repeat' (first|apply eN|apply Ba.region|apply Et.normal|apply Et.exit|apply Ba.to|apply Ba.exit|(apply j4;rfl)|refine go0 ?_|(intro _;try omega))
    all_goals try omega
    refine Aj.normal ⟨by decide,?_,?_⟩
    ·rw[e5]
     exact Dh
    ·rw[e5,← b9k]
     exact DT
  ·have u:¬ Ol q t k=true:=by rw[T];exact fun h=>hn (of_decide_eq_true h)
   rw[if_neg u]
   repeat' (first|apply eN|apply k9|apply Ba.region|apply Et.normal|apply Et.exit|apply Ba.to|apply Ba.block|apply Ba.skip|apply Ba.exit|(apply j4;rfl)|(apply dl (l:=q.p.notes) (i:=m);rfl;exact congrArg (fun b=>some (PV.p (.int .i64 b))) B;rfl;omega;rfl)|refine b9 ?_|refine go2 ?_|refine a7 ?_|(intro _;try omega))
   all_goals try omega
   all_goals try contradiction
   refine Aj.normal ⟨by first|omega|decide,?_,?_⟩
   ·exact Dh
   ·exact DT
 ·have hOk:=z M.length (ab _)
  have d4v:∀i,i<(Gw (Ol q t) (fQ q t) l M.length).length→(gi (Gw (Ol q t) (fQ q t) l M.length) i).length=q.p.notes.length:=fun i K=>d1y _ (Dj K)
  clear z g;generalize Gw (Ol q t) (fQ q t) l M.length=O at *;have hC:∀i,i<O.length→Ej env 79 ([.p (.lst 3 (cells (gi O i)) (gi O i).length)]++[.ref 0 0,.ref 1 0]) [(0,yP q),(1,slB (Oj q t))] 2 (.bool (!Zb q t (gi O i))):=fun i K=>jM q X _ hN hNl (gi O i) (d4v i K)
  unfold yP slB at hC;generalize hP:Zb q t=P at *
  repeat' (first|(refine Ba.at 14 ?_;refine ju (p9 2 (cells O) rfl (c5u O)) ?_;first|apply eN|apply k9)|apply eN|apply Et.normal|apply Et.exit|apply Ba.to|apply Ba.exit|(apply j4;rfl)|(apply Aa.makeFunc;rfl;rfl)|(apply c1h;rfl;rfl;rfl;exact le_dec rfl)|(apply c2w;rfl;rfl;rfl;exact le_dec rfl)|(apply eC;rfl;rfl;rfl)|refine go2 ?_|apply ce|refine a7 ?_|(intro _;try omega))
  all_goals try omega
  apply Ad.Jy (O.length) (fun k=>∀i,i<k→P (gi O i)=true) [(0,_),(1,_),(7,_)] [(0,_),(1,_),(2,_)] (fun k r=>(8,.p (.int .i64 (k:Int)))::r) (fun k r=>r) 3
  ·first|omega|decide
  ·first|omega|decide
  ·exact Ns
  ·exact O9
  ·first|(intro _ _;omega)|omega|trivial
  ·intro k J K
   have A:=hC k J;by_cases hp:P (gi O k)=true
   ·rw[hp] at A
    repeat' (first|(apply eO [0,1] A;rfl;rfl;exact .of_eq rfl;exact eA rfl;exact Dp rfl;(repeat(first|exact trivial|refine⟨⟨_,rfl,.of_eq rfl⟩,?_⟩));decide;(intro _ U;simp at U<;>omega);rfl)|(apply g9;rfl;rfl;rfl;rfl;omega)|refine Fh ?_|refine a7 ?_|(apply a8;rfl)|(apply b5;rfl)|(intro _;try omega))
    all_goals try omega
    all_goals try contradiction
    refine Aj.normal ⟨(all_succ K hp),by first|omega|decide,?_,?_⟩
    ·exact Dh
    ·exact DT
   ·have hp':P (gi O k)=false:=by cases h:P (gi O k)<;>simp_all
    rw[hp'] at A
    repeat' (first|(apply eO [0,1] A;rfl;rfl;exact .of_eq rfl;exact eA rfl;exact Dp rfl;(repeat(first|exact trivial|refine⟨⟨_,rfl,.of_eq rfl⟩,?_⟩));decide;(intro _ U;simp at U<;>omega);rfl)|(apply g9;rfl;rfl;rfl;rfl;omega)|refine Fh ?_|(apply AP.ret;rfl)|refine a7 ?_|(apply cn;rfl)|(apply a8;rfl)|(apply b8;rfl)|(intro _;try omega))
    all_goals try omega
    all_goals try contradiction
    refine eD (fun s:List (List Int)×Nat×Nat=>[(0,.vec 2 O.length 0 O.length),(1,.clo 79 [] [.ref 0 0,.ref 1 0]),(5,.p (.int .i64 (s.2.1:Int))),(6,.p (.int .i64 (s.2.2:Int)))]) (fun s=>[(0,yP q),(1,slB (Oj q t)),(2,.vec 41 (cells s.1) O.length false)]) 3 (fun s=>Us P O s.1 s.2.1 s.2.2) (fun s=>O.length-s.2.2) (O,k,k+1) (by decide) (mv J hp' K) ⟨by decide,?_,?_⟩ ?_
    ·exact Dh
    ·exact DT
    rintro⟨F,i,j⟩ R;simp only at R ⊢;have z1:=R.len;have z2:=R.ij;have z3:=R.jn;unfold yP slB;by_cases o:j<O.length
    ·have d:=hC j o
     have I:=R.at_ o;by_cases hw:P (gi O j)=true
     ·rw[hw] at d
      rw[← I] at d
      repeat' (first|(apply eO [0,1] d;rfl;rfl;exact .of_eq rfl;exact eA rfl;exact Dp rfl;(repeat(first|exact trivial|refine⟨⟨_,rfl,.of_eq rfl⟩,?_⟩));decide;(intro _ U;simp at U<;>omega);rfl)|(apply kz (y:=gi F j);rfl;rfl;rfl;trivial;(first|rfl|(refine congrArg (fun t=>[PV.p (FV.int _ t)]) ?_;first|omega|(simp only[Int.natCast_add,Int.natCast_mul,Int.natCast_ediv,Int.natCast_emod]<;>omega)));rfl;rfl;decide;(first|omega|(simp only[List.length_set]<;>omega)))|(apply eC;rfl;rfl;rfl)|(apply g9;rfl;rfl;rfl;rfl;omega)|refine Fh ?_|refine a7 ?_|(apply a8;rfl)|(apply b8;rfl)|(intro _;try omega))
      all_goals try omega
      refine Aj.normal ⟨(F.set i (gi O j),i+1,j+1),R.put o hw,by simp only;omega,⟨by omega,?_,?_⟩⟩
      ·exact Dh
      ·rw[← I]
       exact DT
     ·have Z:P (gi O j)=false:=by cases h:P (gi O j)<;>simp_all
      rw[Z] at d;rw[← I] at d
      repeat' (first|(apply eO [0,1] d;rfl;rfl;exact .of_eq rfl;exact eA rfl;exact Dp rfl;(repeat(first|exact trivial|refine⟨⟨_,rfl,.of_eq rfl⟩,?_⟩));decide;(intro _ U;simp at U<;>omega);rfl)|(apply eC;rfl;rfl;rfl)|(apply g9;rfl;rfl;rfl;rfl;omega)|refine Fh ?_|refine a7 ?_|(apply a8;rfl)|(apply b5;rfl)|(intro _;try omega))
      all_goals try omega
      refine Aj.normal ⟨(F,i,j+1),R.skip o Z,by simp only;omega,⟨by omega,?_,?_⟩⟩
      ·exact Dh
      ·exact DT
    ·obtain rfl:j=O.length:=by omega
     obtain⟨f1,f2⟩:=R.fin;rw[← f1,show(F.take i).length=i by rw[av];omega];have hps:∀xs,((CG (cells F) (0+i*1) xs).take (i*1))=cells (F.take i):=fun xs=>by
      rw[P8 _ _ _ (show i*1≤0+i*1 by omega)];exact I8 F i
     have hpl:∀xs,i*1≤(CG (cells F) (0+i*1) xs).length:=fun xs=>by
      rw[Rn,BD,z1];show i*1≤O.length*1;omega
     repeat' (first|(refine eB 6 ?_;refine c7 (pE 56 (i*1) rfl rfl (by omega) (hpl _)) ?_)|apply Ba.ret|apply Ad.assoc|apply ce|apply jx|apply BK.normal|(apply AP.ret;rfl)|apply Bj.exit|apply Aj.exit|apply Ad.ret|apply Ah.nil|apply c9|(apply mi (sz:=1) (a:=i) (c:=O.length);rfl;rfl;omega;rfl;rfl;rfl;exact⟨_,rfl⟩;rfl;omega;exact ab _)|(apply mi (sz:=1) (a:=0) (c:=i);rfl;rfl;omega;rfl;rfl;rfl;rfl;exact⟨_,rfl⟩;omega;omega)|(apply Aa.clear;rfl;rfl;omega;omega;rfl;rfl;rfl;decide;(rw[BD,z1];show 0+i*1+(O.length-i)*1≤O.length*1;omega))|(apply Aa.assign;rfl)|(apply Aa.move;rfl)|refine a7 ?_|(apply eC;rfl;rfl;rfl)|(apply a8;rfl)|(intro _;try omega))
     all_goals first|omega|(refine aa ?_;exact congrArg (fun c=>PV.p (FV.lst 41 c i)) (hps _))
  ·intro K
   rw[filter_all K]
   repeat' (first|(refine eB 6 ?_;refine c7 (b6 56 rfl rfl) ?_)|apply Ba.ret|apply Ad.assoc|apply ce|apply kj|apply jx|apply BK.normal|(apply AP.ret;rfl)|apply Bj.exit|apply Aj.exit|apply Ad.ret|apply Ah.nil|apply c9|(apply Aa.assign;rfl)|(apply Aa.move;rfl)|refine a7 ?_|(apply ei;rfl)|(apply a8;rfl)|(intro _;try omega))
   all_goals first|omega|(refine aa ?_;try rfl)
end Go.Proofs.YthlffjlbidibdaaGreatDoor
namespace Go.Vm
open Go.Am
def keyAt{α:Type}[DecidableEq α]:List α→α→Option Nat
 |[],_=>none
 |x::l,a=>if a=x then some 0 else(keyAt l a).map (·+1)
structure IL(P:Program)(t:TypeId){α:Type}[DecidableEq α](kf:α→FV)(kv:α→Value):Prop where
 rel:∀{m:Mem} {F:Nat→Prop} {a:α} {v:Value},RF m F (kf a) v→v=kv a
 of:∀{m:Mem} {F:Nat→Prop} (a:α),RF m F (kf a) (kv a)
 plain:∀a,Am.plain (kv a)=true
 bits:∀a,((ER P t).isSome||Instr.sameBits 10000 (kv a) (kv a))=true
 find:∀(fl:Bool) (a:α) (ks:List α) (l:List MapEntry),l.map (·.key)=ks.map kv→Jk P fl t (kv a) l=some ((keyAt ks a).bind fun j=>(l[j]?).map fun e=>(j,e.val))
def OC{α:Type}(kf:α→FV)(es:List (α×PV)):HB:=.KF (es.map fun x=>kf x.1) (es.map (·.2))
theorem dY{α β:Type}[DecidableEq α](a:α):∀(es:List (α×β)),(Cj es a=none→keyAt (es.map (·.1)) a=none∧∀b,CP es a b=es++[(a,b)]) ∧
 (∀c,Cj es a=some c→∃j,keyAt (es.map (·.1)) a=some j∧es[j]?=some (a,c)∧∀b,CP es a b=es.set j (a,b))
 |[]=>⟨fun _=>⟨rfl,fun _=>rfl⟩,fun c h=>by cases h⟩
 |x::es=>by
  obtain⟨e,d⟩:=dY a es;unfold Cj CP;simp only[List.map_cons,keyAt];grind
theorem pQ{P:Program}{t:TypeId}{α:Type}[DecidableEq α]{kf:α→List FV}{kv:α→List Value}(k:∀a,Gp (kf a)=some (kv a))(m:Ve P t=true)(f:∀a b,DL P (Op.equal t (.agg (kv a).toArray) (.agg (kv b).toArray))=some (decide (a=b)))
 (o:∀fl a,Zy P (Instr.checkKey fl 10000 t (.agg (kv a).toArray))=true):IL P t (fun a=>.agg (kf a)) (fun a=>.agg (kv a).toArray):=by
 have h:IsKey P t kf kv:=⟨k,m,f,o⟩
 refine⟨fun r=>h.rel r,fun a=>h.of a,fun a=>h.plain a,fun a=>by rw[h.bits,Bool.or_true],fun fl a c l p=>?_⟩;rw[aY h];have key:∀(c:List α) (l:List MapEntry) (i:Nat),l.map (·.key)=c.map (fun a=>.agg (kv a).toArray)→DL P (Instr.findAsking t (.agg (kv a).toArray) l i)=some ((keyAt c a).bind fun j=>(l[j]?).map fun e=>(i+j,e.val)):=by
  intro c
  induction c with
  |nil =>
   intro l i d;rw[fc,jb] at d;subst d;rfl
  |cons x c g =>
   intro l i d;cases l with
   |nil=>grind
   |cons y l =>
    simp only[List.map_cons,List.cons.injEq] at d;rw[Instr.findAsking,d.1];simp only[Aw,f,Option.bind_some,keyAt];by_cases e:a=x
    ·rw[decide_eq_true e,if_pos e];rfl
    ·rw[decide_eq_false e,if_neg e]
     show DL P (Instr.findAsking t (.agg (kv a).toArray) l (i+1))=_;rw[g l (i+1) d.2];cases keyAt c a with
     |none=>rfl
     |some j =>
      grind
 grind
theorem nL{P:Program}{t:TypeId}{α:Type}[DecidableEq α]{f:α→ByteArray}(m:∀a b,f a=f b→a=b)(k:P.underlying t=some .string):IL P t (fun a=>.str (f a)) (fun a=>.string (f a)):=by
 have p:ER P t=some .string:=by unfold ER;rw[k]
 refine⟨fun r=>by cases r;rfl,fun a=>.str _,fun a=>rfl,fun a=>by grind,fun s a c l o=>?_⟩;unfold Jk;have key:∀(c:List α) (l:List MapEntry) (i:Nat),l.map (·.key)=c.map (fun a=>.string (f a))→Instr.findNow .string (.string (f a)) l i=some ((keyAt c a).bind fun j=>(l[j]?).map fun e=>(i+j,e.val)):=by
  intro c
  induction c with
  |nil =>
   intro l i d;rw[fc,jb] at d;subst d;rfl
  |cons x c h =>
   intro l i d;cases l with
   |nil=>grind
   |cons y l =>
    simp only[List.map_cons,List.cons.injEq] at d;unfold Instr.findNow;rw[d.1];simp only[Instr.sameNow,keyAt];by_cases e:a=x
    ·subst e
     rw[show(f a==f a)=true by simp[O8],if_pos rfl];rfl
    ·have g:(f a==f x)=false:=by
      rw[O8];refine decide_eq_false fun q=>e (m _ _ ?_)
      cases hfa:f a;simp_all
     rw[g,if_neg e];rw[h l (i+1) d.2];cases keyAt c a with
     |none=>rfl
     |some j =>
      grind
 grind
section
variable {P:Program}{α:Type}[DecidableEq α]{kf:α→FV}{kv:α→Value}{t:TypeId}
theorem sK(h:IL P t kf kv):∀{es:List (α×PV)} {ks:List Value},Du m F (es.map fun x=>kf x.1) ks→ks=(es.map (·.1)).map kv
 |[],_,r=>by cases r;rfl
 |x::es,_,r=>by
  cases r with
  |cons b a=>rw[h.rel b,sK h a];rfl
theorem zX(h:IL P t kf kv):∀(es:List (α×PV)),Du m F (es.map fun x=>kf x.1) ((es.map (·.1)).map kv)
 |[]=>.nil
 |x::l=>.cons (h.of x.1) (zX h l)
theorem nW:∀{xs:List PV} {vs:List Value} {i:Nat} {x:PV} {v:Value},Dw m F T σ n xs vs→xs[i]?=some x→vs[i]?=some v→RP m F T σ n x v
 |_,_,i,_,_,.nil,h,_=>by grind
 |_,_,0,_,_,.cons h t,h1,h2=>by grind
 |_,_,i+1,_,_,.cons h t,h1,h2=>nW t (by assumption) (by grind)
theorem a3l(h:IL P t kf kv)(fl:Bool)(a:α)(i:l.map (·.key)=(es.map (·.1)).map kv)(q:Dw m F T σ n (es.map (·.2)) (l.map (·.val))) :
 (Cj es a=none→Jk P fl t (kv a) l=some none∧∀b,CP es a b=es++[(a,b)]) ∧
 (∀c,Cj es a=some c→∃j v e,Jk P fl t (kv a) l=some (some (j,v))∧RP m F T σ n c v∧l[j]?=some e∧e.key=kv a∧e.val=v∧∀b,CP es a b=es.set j (a,b)):=by
 obtain⟨y,r⟩:=dY a es;have d:=h.find fl a (es.map (·.1)) l i;refine⟨fun x=>?_,fun c p=>?_⟩
 ·grind
 ·obtain⟨j,k1,u,o⟩:=r c p
  have f:l.length=es.length:=by
   have:=congrArg List.length i;grind
  have g:j<l.length:=by grind
  rw[k1] at d;simp only[Option.bind_some,List.getElem?_eq_getElem g,Option.map_some] at d;refine⟨j,l[j].val,l[j],d,?_,ai g,?_,rfl,o⟩
  ·have k:(es.map (·.2))[j]?=some c:=by grind
   have s:(l.map (·.val))[j]?=some l[j].val:=by grind
   exact nW q k s
  ·have k:(l.map (·.key))[j]?=some l[j].key:=by grind
   grind
variable {E:Env}{L:Vm.Frame}{H:Vm.Heap}{nx:Nat}{Q:PV→Vm.Heap→Nat→Prop}{w:Bool}{dst:Option Tmp}{ty:TypeId}{pos:String}{af:Array Edge}{gd:Option (Nat×Bool)}
theorem WQ(h:IL P t kf kv)(c:Ctx Γ m F σ H nx)(e:RL m F (htag H) σ nx L b)(d:AY Γ L o=some (.p (kf a))):ev b o=kv a:=by
 have:=Bz c e d;cases this with
 |p r=>exact h.rel r
theorem ko(d:IL E.P I kf kv)(K:AY E.Γ L x=some (.mref b))(s:hget H b=some (OC kf es))(N:AY E.Γ L k=some (.p (kf a)))
 (M:E.P.underlying t=some (.map I O)) (J:zeroOf E.P O=some z) (o:Am.plain z=true) (f:Nb E H nx es a z c) (q:Q (.DK [c,.p (.bool (Cj es a).isSome)]) H nx):Aa E w ⟨dst,.lookup t x k true,ty,pos,af,gd⟩ L H nx Q :=
 Aa.quiet q fun m F σ X g i=>by
  obtain⟨_,r,l,A,C,r2,Z,B,S,R,Y⟩:=g.hp b _ s;have V:=sK d S;have h:(Am.plain z&&Am.plain (kv a))=true:=by rw[o,d.plain];rfl
  obtain⟨f1,f2⟩:=a3l d l.isEmpty a V R;rcases f with f|⟨f,T⟩
  ·obtain⟨j,u,e,y,U,_⟩:=f2 c f
   refine⟨.tuple #[u,.bool true],fun _=>?_,?_⟩
   ·simp only[BX,F5,N7,M,J,JF g i K s,WQ d g i N,C,B,h,if_true,y,Option.map_some]
   ·rw[f];exact .DK (.cons U (.cons (.p (.bool _)) .nil))
  ·have y:=(f1 f).1
   refine⟨.tuple #[z,.bool false],fun _=>?_,?_⟩
   ·simp only[BX,F5,N7,M,J,JF g i K s,WQ d g i N,C,B,h,if_true,y,Option.map_some]
   ·rw[f];exact .DK (.cons (T m F σ g) (.cons (.p (.bool _)) .nil))
theorem LX(h:IL P p kf kv)(s:Ctx Γ m F σ H nx)(l:hget H b=some (OC kf es))(f:σ b=.map (some r))(o:r<m.size)(i:¬ F r)
 (k1:l'.map (·.key)=(es'.map (·.1)).map kv) (j:Dw m F (htag H) σ nx (es'.map (·.2)) (l'.map (·.val))) (g:Stamped l' clock') :
 Ctx Γ (m.put r (.map l' clock')) F σ (hput H b (OC kf es')) nx∧Step m F σ H nx (m.put r (.map l' clock')) F σ (hput H b (OC kf es')) nx:=by
 have c:∀a x,r≠a→(m.put r x).get a=m.get a:=fun a x d=>by rw[cg,if_neg d]
 have:=s.change (m':=m.put r (.map l' clock')) (x':=OC kf es') (s':=σ b) l trivial (fun _=>rfl) (ab _)
  (fun a _ d=>c a _ fun e=>d (by rw[f,e];rfl)) (fun k k1 j g=>by
   have:=g r (by rw[f];rfl);simp only[Mem.put];omega) (fun a d=>.inl d) (by
   have q:∀a,F a→F a∧(m.put r (.map l' clock')).get a=m.get a:=fun a d=>⟨d,c a _ fun e=>i (e▸d)⟩
   refine⟨r,l',clock',f,o,i,by rw[cg,if_pos rfl],?_,?_,g⟩
   ·rw[k1]
    exact zX h es'
   ·exact j.mono q (EU (x':=OC kf es') l trivial fun _=>rfl) (ab _))
 rw[dK] at this;omega
theorem po(f:IL E.P C kf kv)(hx:AY E.Γ L x=some (.mref b))(I:hget H b=some (OC kf es))(hk:AY E.Γ L k=some (.p (kf a)))(hy:AY E.Γ L y=some c)
 (ht:E.P.underlying t=some (.map C et))  (hH:hput H b (OC kf (CP es a c))=H') (q:Q (.DK []) H' nx):Aa E true ⟨dst,.mapUpdate t x k y,ty,pos,af,gd⟩ L H nx Q:=by
 subst hH;intro m F σ s z S;obtain⟨_,r,l,d,K,V,U,r4,Z,J,T⟩:=z.hp b _ I;have e1:=sK f Z;obtain⟨f1,f2⟩:=a3l f false a e1 J;have A:=Bz z S hy;have o:JH E.P t (ev s x) (ev s k) (ev s y) m=match Jk E.P false C (kv a) l with
  |some (some (i,_))=>if(ER E.P C).isSome||Instr.sameBits 10000 (((l[i]?).map (·.key)).getD (kv a)) (kv a) then some (m.put r (.map (l.modify i fun e=>{ e with key:=kv a,val:=ev s y }) d)) else none
  |some none=>some (m.put r (.map (l++[{ key:=kv a,val:=ev s y,born:=d }]) (d+1)))
  |none=>none:=by
  unfold JH;simp only[ht,JF z S hx I,WQ f z S hk,K,r4,f.plain,if_true];rfl
 cases hl:Cj es a with
 |none =>
  obtain⟨N,Y⟩:=f1 hl;rw[N] at o;obtain⟨R,O⟩:=LX f z I K V U (es':=CP es a c) (l':=l++[{ key:=kv a,val:=ev s y,born:=d }]) (clock':=d+1) (by grind) (by rw[Y c,bh,bh];exact lx J A) T.push;exact GX.op (v:=undef) (fun _=>by simp only[BX,F5,o,Option.map_some]) ⟨_,_,_,F,_,q,R,.DK .nil,O,fun h=>by cases h⟩
 |some c0 =>
  obtain⟨j,u,e0,N,Y,X,M,_,f6⟩:=f2 c0 hl;rw[N] at o;simp only[X,Option.map_some,Option.getD_some,M,f.bits,if_true] at o;have B:∀(g:MapEntry→MapEntry),l.modify j g=l.set j (g e0):=fun g=>MS X
  obtain⟨R,O⟩:=LX f z I K V U (es':=CP es a c) (l':=l.modify j fun e=>{ e with key:=kv a,val:=ev s y }) (by simp_all) (by rw[B,f6 c,cP,cP];exact J.set j A) (T.modify fun _=>rfl);exact GX.op (v:=undef) (fun _=>by simp only[BX,F5,o,Option.map_some]) ⟨_,_,_,F,_,q,R,.DK .nil,O,fun h=>by cases h⟩
theorem pt(f:IL E.P C kf kv)(hx:AY E.Γ L x=some (.mref b))(I:hget H b=some (OC kf es))(hk:AY E.Γ L k=some (.p (kf a)))(hy:AY E.Γ L y=some c)
 (ht:E.P.underlying t=some (.map C et))  (hH:hput H b (OC kf (CP es a c))=H') (q:Q (.DK []) H' nx):Aa E true ⟨dst,.insert t x k y,ty,pos,af,gd⟩ L H nx Q:=by
 subst hH;intro m F σ s z S;obtain⟨_,r,l,d,K,V,U,r4,Z,J,T⟩:=z.hp b _ I;have e1:=sK f Z;obtain⟨f1,f2⟩:=a3l f false a e1 J;have A:=Bz z S hy;have o:JH E.P t (ev s x) (ev s k) (ev s y) m=match Jk E.P false C (kv a) l with
  |some (some (i,_))=>if(ER E.P C).isSome||Instr.sameBits 10000 (((l[i]?).map (·.key)).getD (kv a)) (kv a) then some (m.put r (.map (l.modify i fun e=>{ e with key:=kv a,val:=ev s y }) d)) else none
  |some none=>some (m.put r (.map (l++[{ key:=kv a,val:=ev s y,born:=d }]) (d+1)))
  |none=>none:=by
  unfold JH;simp only[ht,JF z S hx I,WQ f z S hk,K,r4,f.plain,if_true];rfl
 cases hl:Cj es a with
 |none =>
  obtain⟨N,Y⟩:=f1 hl;rw[N] at o;obtain⟨R,O⟩:=LX f z I K V U (es':=CP es a c) (l':=l++[{ key:=kv a,val:=ev s y,born:=d }]) (clock':=d+1) (by grind) (by rw[Y c,bh,bh];exact lx J A) T.push;exact GX.op (v:=undef) (fun _=>by simp only[BX,F5,o,Option.map_some]) ⟨_,_,_,F,_,q,R,.DK .nil,O,fun h=>by cases h⟩
 |some c0 =>
  obtain⟨j,u,e0,N,Y,X,M,_,f6⟩:=f2 c0 hl;rw[N] at o;simp only[X,Option.map_some,Option.getD_some,M,f.bits,if_true] at o;have B:∀(g:MapEntry→MapEntry),l.modify j g=l.set j (g e0):=fun g=>MS X
  obtain⟨R,O⟩:=LX f z I K V U (es':=CP es a c) (l':=l.modify j fun e=>{ e with key:=kv a,val:=ev s y }) (by simp_all) (by rw[B,f6 c,cP,cP];exact J.set j A) (T.modify fun _=>rfl);exact GX.op (v:=undef) (fun _=>by simp only[BX,F5,o,Option.map_some]) ⟨_,_,_,F,_,q,R,.DK .nil,O,fun h=>by cases h⟩
theorem fK{d:Nat}(xs ys:Array Value)(e:g (none,())=pure true)(c:∀ b,g (some b,())=pure b):∀ (a:List Field) (bs:List Bool),a.length=bs.length→(∀ (i:Nat) (f:Field) (b:Bool),a[i]?=some f→bs[i]?=some b→f.name≠"_"∧∃ x y,DL P (part f.type xs f.offset)=some x∧DL P (part f.type ys f.offset)=some y∧DL P (Op.equalIn d f.type x y)=some b) →
 DL P ((forIn a ((none,()):Option Bool×Unit) fun f _=>(do
     if f.name≠"_" then
      if(!(← Op.equalIn d f.type (← part f.type xs f.offset) (← part f.type ys f.offset)))=true then pure (ForInStep.done (some false,())) else pure (ForInStep.yield (none,()))
     else pure (ForInStep.yield (none,())):Sem (ForInStep (Option Bool×Unit)))) >>= g)=some (bs.all id)
 |[],[],_,h=>by
  simp only[List.forIn_nil,Aw,Ce,Option.bind_some,e];rfl
 |f::a,b::bs,hl,h=>by
  obtain⟨k,x,y,o,m,l⟩:=h 0 f b rfl rfl;have j:=fK (d:=d) xs ys e c a bs (by grind) fun i f b p q=>h (i+1) f b (by grind) (by grind)
  rw[eM];simp only[Aw,ne_eq,k,not_false_eq_true,if_true,o,m,Option.bind_some,l];cases b with
  |false=>simp[Ce,c]
  |true =>
   simp only[Bool.not_true,Bool.false_eq_true,if_false,Ce,Option.bind_some,List.all_cons,id_eq,Bool.true_and];rw[Aw] at j;omega
 |[],_::_,hl,_=>by grind
 |_::_,[],hl,_=>by grind
theorem kP{d:Nat}{bs:List Bool}(c:P.underlying t=some (.struct a))(e:P.stoodInHeld t=false)(g:a.toList.length=bs.length)
 (h:∀ (i:Nat) (f:Field) (b:Bool),a.toList[i]?=some f→bs[i]?=some b→f.name≠"_"∧∃ x y,DL P (part f.type xs f.offset)=some x∧DL P (part f.type ys f.offset)=some y∧DL P (Op.equalIn d f.type x y)=some b) :
 DL P (Op.equalIn (d+1) t (.agg xs) (.agg ys))=some (bs.all id):=by
 rw[Op.equalIn];simp only[Aw,Bd,c,Option.bind_some,program,DL,e,Bool.false_eq_true,if_false];rw[← fe,← Aw];exact fK (d:=d) xs ys rfl (fun b=>rfl) a.toList bs g h
theorem gV(j:P.underlying t=some (.array 2 e))(k:(P.info? e).map (·.size)=some n)(i:DL P (part e xs 0)=some x0)(h:DL P (part e ys 0)=some b)(g:DL P (part e xs n)=some c)(f:DL P (part e ys n)=some a)
 (m:DL P (Op.equalIn d e x0 b)=some b0) (l:DL P (Op.equalIn d e c a)=some b1):DL P (Op.equalIn (d+1) t (.agg xs) (.agg ys))=some (b0&&b1):=by
 rw[Op.equalIn];simp only[Aw,Bd,j,Option.bind_some,Gy,k];rw[Std.Legacy.Range.forIn_eq_forIn_range'];show((DL P (forIn [0,1] _ _)).bind _)=_;rw[eM];simp only[Aw,Nat.zero_mul,i,h,m,Option.bind_some];cases b0 with
 |false=>rfl
 |true =>
  simp only[Bool.not_true,Bool.false_eq_true,if_false,Ce,Option.bind_some,List.forIn_cons,List.forIn_nil,Aw,Nat.one_mul,g,f,l];cases b1<;>rfl
theorem FP(b:G9 P t=some true)(a:(P.info? t).map (·.size)=some n):DL P (part t cs o)=some (.agg (cs.extract o (o+n))):=by
 simp only[part,Aw,TJ,b,Option.bind_some,if_true,Gy,a,Ce]
theorem iC(e:P.underlying t=some (.struct b))(h:∀f∈b.toList,∃x,DL P (part f.type xs f.offset)=some x∧DL P (Instr.checkKey fl n f.type x)=some ()):DL P (Instr.checkKey fl (n+1) t (.agg xs))=some ():=by
 rw[Instr.checkKey];simp only[Aw,Bd,e,Option.bind_some];rw[← fe];generalize b.toList=l at h;have a:∀l:List Field,(∀f∈l,∃x,DL P (part f.type xs f.offset)=some x∧DL P (Instr.checkKey fl n f.type x)=some ())→DL P (forIn l PUnit.unit fun f _=>(do
  if f.name≠"_" then do
   let x ← part f.type xs f.offset
   Instr.checkKey fl n f.type x
   pure (ForInStep.yield PUnit.unit)
  else pure (ForInStep.yield PUnit.unit):Sem (ForInStep PUnit)))=some PUnit.unit:=by
  intro l
  induction l with
  |nil=>intro _;rfl
  |cons f l c =>
   intro h;obtain⟨x,j,i⟩:=h f (by simp);have c:=c fun f g=>h f (am _ g)
   rw [eM,Aw];by_cases d:f.name≠"_"
   ·rw[if_pos d]
    simp only[Aw,j,Option.bind_some,i,Ce];omega
   ·rw[if_neg d]
    assumption
 rw[a l h];rfl
theorem Zq(d:P.underlying t=some (.array 2 e))(f:(P.info? e).map (·.size)=some k)(c:DL P (part e xs 0)=some x0)(b:DL P (part e xs k)=some a)
 (h:DL P (Instr.checkKey fl n e x0)=some ()) (g:DL P (Instr.checkKey fl n e a)=some ()):DL P (Instr.checkKey fl (n+1) t (.agg xs))=some ():=by
 rw[Instr.checkKey];simp only[Aw,Bd,d,Option.bind_some];rw[Std.Legacy.Range.forIn_eq_forIn_range'];show((DL P (forIn [0,1] _ _)).bind _)=_;simp only[List.forIn_cons,List.forIn_nil,Aw,Ce,Nat.zero_mul,Nat.one_mul,Gy,f,c,b,h,g,Option.bind_some]
theorem Rt(a:P.underlying t=some d)(b:b6z d=true):DL P (Instr.checkKey fl (n+1) t x)=some ():=by
 rw[Instr.checkKey];simp only[Aw,Bd,a,Option.bind_some];cases d<;>first|rfl|cases b
theorem pH(d:Nat)(cs:List FV)(I:Gf L d=some (.ref b 0))(k:hget H b=some (.box e ds))(j:ds=cs.map .p):Ap E L H nx ((d,.p (.FI cs))::L) (hdel H b) nx:=fun B m F σ t l u K=>by
 subst j;obtain⟨M,x⟩:=qw l k;refine⟨_,σ,M,fun i v f=>?_,K.trans x⟩;rw[Ew] at f;by_cases o:d=i
 ·rw[if_pos o] at f;cases f
  have:=u d _ I;subst o;cases this with
  |ref J s h =>
   obtain⟨S,r,C⟩:=h (by simp[htag,k,HB.tag]);obtain⟨_,c,N,q,R,O,A,z,y⟩:=l.hp b _ k;rw[q] at r;cases r;rw[C];have a:=k7 z;refine .p (.FI (g:=0) (.inr (by rw[q];rfl)) A rfl ?_ (a.mono fun c s=>⟨.inl s,rfl⟩) y);rw[cJ,a.length];simp[takeN]
 ·rw[if_neg o] at f
  exact(u i v f).step x l
theorem pr(b:AY E.Γ L x=some (.p (.FI cs)))(q:Q (.p (.FI cs)) H nx):Aa E w ⟨dst,.nilCheck x,ty,pos,af,gd⟩ L H nx Q :=
 Aa.quiet q fun m F σ g f e=>by
  obtain⟨a,d,c⟩:=bK f e b;exact⟨_,fun _=>by simp only[BX,F5,d],.p c⟩
theorem pi(g:AY E.Γ L x=some (.p (.FI cs)))(f:AY E.Γ L y=some (.p (.val (.pointer none))))(h:E.P.underlying t=some (.pointer e))(q:Q (.p (.bool false)) H nx) :
 Aa E w ⟨dst,.binOp .eql t x y d,ty,pos,af,gd⟩ L H nx Q:=Aa.quiet q fun m F σ k c b=>by
 obtain⟨a,j,_⟩:=bK c b g;have i:=aJ c b f;exact⟨.bool false,fun _=>by simp[BX,F5,j,i,QT,h,J9],.p (.bool _)⟩
theorem pn(f:AY E.Γ L x=some (.p (.val (.pointer none))))(d:AY E.Γ L y=some (.p (.val (.pointer none))))(g:E.P.underlying t=some (.pointer e))(q:Q (.p (.bool true)) H nx) :
 Aa E w ⟨dst,.binOp .eql t x y c,ty,pos,af,gd⟩ L H nx Q:=Aa.quiet q fun m F σ j b a=>by
 have i:=aJ b a f;have h:=aJ b a d;exact⟨.bool true,fun _=>by simp[BX,F5,i,h,QT,g,J9],.p (.bool _)⟩
end
end Go.Vm
namespace Go.Proofs.YthlffjlbidibdaaGreatDoor
open Go Go.Am Go.Vm Go.Pie Go.Sch
attribute [local irreducible] Aa Ah Ai Ad AL Ak Bf BK Bj Aj Vm.Done Bv AP Nl
attribute [local irreducible] Cb Bg D5 DU EF AV CB
instance:Enc Lu:={ default:=st0,enc:=fun x=>[.str (bs x.now),.int .i64 x.c0.d,.int .i64 x.c0.k,.int .i64 x.c1.d,.int .i64 x.c1.k,.bool x.b0,.bool x.b1],size:=7,len:=fun _=>rfl }
def a3i(x:Lu):List Value:=[.string (bs x.now),.int .i64 x.c0.d,.int .i64 x.c0.k,.int .i64 x.c1.d,.int .i64 x.c1.k,.bool x.b0,.bool x.b1]
theorem b8p(d:Nat)(a b:XI):DL Tryz.prog (Op.equalIn (d+2) 87 (.agg #[.int .i64 a.d,.int .i64 a.k]) (.agg #[.int .i64 b.d,.int .i64 b.k]))=some (decide (a=b)):=by
 obtain⟨e,f⟩:∃e,Tryz.prog.underlying 87=some (.struct e):=⟨_,rfl⟩
 refine Qg f (by kernel_rfl) ?_;have c:some (TypeDesc.struct e)=Tryz.prog.underlying 87:=f.symm;cases c;show some (decide (a.d=b.d)&&(decide (a.k=b.k)&&true))=_;obtain⟨j,i⟩:=a;obtain⟨b1,b2⟩:=b;by_cases h:j=b1<;>by_cases g:i=b2<;>simp[h,g]
theorem a6y(fl:Bool)(n:Nat)(a:XI):DL Tryz.prog (Instr.checkKey fl (n+2) 87 (.agg #[.int .i64 a.d,.int .i64 a.k]))=some ():=by
 rfl
theorem c8a(a b:Lu):DL Tryz.prog (Op.equal 91 (.agg (a3i a).toArray) (.agg (a3i b).toArray))=some (decide (a=b)):=by
 obtain⟨h,j⟩:∃h,Tryz.prog.underlying 91=some (.struct h):=⟨_,rfl⟩
 have x:DL Tryz.prog (Op.equalIn 9999 9 (.string (bs a.now)) (.string (bs b.now)))=some (decide (a.now=b.now)):=TF (d:=9998) (td:=.string) rfl rfl;have u:DL Tryz.prog (Op.equalIn 9999 88 (.agg #[.int .i64 a.c0.d,.int .i64 a.c0.k,.int .i64 a.c1.d,.int .i64 a.c1.k]) (.agg #[.int .i64 b.c0.d,.int .i64 b.c0.k,.int .i64 b.c1.d,.int .i64 b.c1.k]))=some (decide (a.c0=b.c0)&&decide (a.c1=b.c1)) :=
  gV (d:=9998) (e:=87) (n:=2) rfl rfl (FP rfl rfl) (FP rfl rfl) (FP rfl rfl) (FP rfl rfl) (b8p 9996 a.c0 b.c0) (b8p 9996 a.c1 b.c1)
 have s:DL Tryz.prog (Op.equalIn 9999 89 (.agg #[.bool a.b0,.bool a.b1]) (.agg #[.bool b.b0,.bool b.b1]))=some ((a.b0==b.b0)&&(a.b1==b.b1)) :=
  gV (d:=9998) (e:=4) (n:=1) rfl rfl (GU rfl rfl) (GU rfl rfl) (GU rfl rfl) (GU rfl rfl) (TF (d:=9997) (td:=.bool) rfl rfl) (TF (d:=9997) (td:=.bool) rfl rfl)
 have:=kP (P:=Tryz.prog) (d:=9999) (t:=91) (xs:=(a3i a).toArray) (ys:=(a3i b).toArray) (bs:=[decide (a.now=b.now),decide (a.c0=b.c0)&&decide (a.c1=b.c1),(a.b0==b.b0)&&(a.b1==b.b1)]) j (by kernel_rfl) (by
  have c:some (TypeDesc.struct h)=Tryz.prog.underlying 91:=j.symm;cases c;rfl) (by
  have c:some (TypeDesc.struct h)=Tryz.prog.underlying 91:=j.symm;cases c;intro i f A l g
  match i with
  |0 =>
   cases l;cases g;exact⟨by decide,_,_,GU (v:=.string (bs a.now)) rfl rfl,GU (v:=.string (bs b.now)) rfl rfl,x⟩
  |1 =>
   cases l;cases g;exact⟨by decide,_,_,FP rfl rfl,FP rfl rfl,u⟩
  |2 =>
   cases l;cases g;exact⟨by decide,_,_,FP rfl rfl,FP rfl rfl,s⟩
  |i+3=>cases g)
 refine dm this (congrArg some ?_);obtain⟨J,I,F,C,B⟩:=a;obtain⟨b1,b2,b3,z,y⟩:=b;simp only[List.all_cons,List.all_nil,id_eq,Bool.and_true,Lu.mk.injEq];rw[eE];simp only[Bool.and_eq_true,decide_eq_true_eq,beq_iff_eq];constructor
 ·rintro⟨r,⟨q,p⟩,o,m⟩;exact⟨r,q,p,o,m⟩
 ·rintro⟨r,q,p,o,m⟩;exact⟨r,⟨q,p⟩,o,m⟩
theorem c1w(fl:Bool)(a:Lu):Zy Tryz.prog (Instr.checkKey fl 10000 91 (.agg (a3i a).toArray))=true:=by
 obtain⟨c,g⟩:∃c,Tryz.prog.underlying 91=some (.struct c):=⟨_,rfl⟩
 have:DL Tryz.prog (Instr.checkKey fl 10000 91 (.agg (a3i a).toArray))=some ():=by
  refine iC (n:=9999) g fun f hf=>?_
  have b:some (TypeDesc.struct c)=Tryz.prog.underlying 91:=g.symm;cases b;rcases bd.1 hf with rfl|hf
  ·exact⟨_,GU (v:=.string (bs a.now)) rfl rfl,Rt (n:=9998) (d:=.string) rfl rfl⟩
  rcases bd.1 hf with rfl|hf
  ·refine⟨_,FP rfl rfl,?_⟩
   exact Zq (n:=9998) (e:=87) (k:=2) rfl rfl (FP rfl rfl) (FP rfl rfl) (a6y fl 9996 a.c0) (a6y fl 9996 a.c1)
  rcases bd.1 hf with rfl|hf
  ·refine⟨_,FP rfl rfl,?_⟩
   exact Zq (n:=9998) (e:=4) (k:=1) rfl rfl (GU (v:=.bool a.b0) rfl rfl) (GU (v:=.bool a.b1) rfl rfl) (Rt (n:=9997) (d:=.bool) rfl rfl) (Rt (n:=9997) (d:=.bool) rfl rfl)
  ·cases hf
 unfold Zy;rw[this]
theorem tY:IL Tryz.prog 91 (fun x:Lu=>.agg (Enc.enc x)) (fun x=>.agg (a3i x).toArray):=pQ (fun _=>rfl) (by rfl) c8a c1w
theorem b6p(a b:List UInt8)(h:bs a=bs b):a=b:=by
 have:=congrArg (fun x:ByteArray=>x.data.toList) h;assumption
theorem ZY:IL Tryz.prog 9 (fun x:List UInt8=>.str (bs x)) (fun x=>.string (bs x)):=nL b6p rfl
theorem YI(a:Int):Ak env 117 [.int .i64 a] (.p (.bool false)):=by
 refine Ak.enter (Af (by decide)) Tryz.func117 rfl (by kernel_rfl) (by simp) ?_
 repeat' (first|refine Fj ?_|fail)
 all_goals first|(omega)|(refine aa ?_)
 simp
theorem y8(a b:Int):Ak env 66 [.int .i64 a,.int .i64 b] (.p (.int .i64 (if a<b then -1 else if b<a then 1 else 0))):=by
 have f:=YI a;have e:=YI b;by_cases d:a<b;all_goals by_cases c:b<a
 all_goals first|rw[if_pos d]|rw[if_neg d]
 all_goals try first|rw[if_pos c]|rw[if_neg c]
 all_goals
  refine Ak.enter (Af (by decide)) Tryz.func66 rfl (by kernel_rfl) (by simp[Tryz.ntmps66]) ?_
 all_goals
  repeat' (first|refine a6 f ?_|refine a6 e ?_|refine go1 ?_|refine a7 ?_|(apply cn;rfl)|(apply a8;rfl)|(intro _;try omega))
 all_goals first|omega|contradiction|(refine aa ?_;try rfl)
theorem b1e(a b:List Int):∀k,k<a.length→k<b.length→cmpL (a.drop k) (b.drop k)=if gi a k<gi b k then -1 else if gi b k<gi a k then 1 else cmpL (a.drop (k+1)) (b.drop (k+1)):=fun k d c=>by
 rw[bO d,bO c];have f:gi a k=a[k]:=by unfold gi;grind
 have e:gi b k=b[k]:=by unfold gi;grind
 rw[f,e];rfl
theorem UE(a b:List Int)(h:a.length=b.length)(l:a.length<1000000):Ak env 28 [.lst 3 (cells a) a.length,.lst 3 (cells b) b.length] (.p (.int .i64 (cmpL a b))):=by
 refine Ak.enter (Af (by decide)) Tryz.func28 rfl (by kernel_rfl) (by simp[Tryz.ntmps28]) ?_
 repeat' (first|refine go1 ?_|fail)
 all_goals try omega
 apply Ad.Jy (a.length) (fun k=>cmpL (a.drop k) (b.drop k)=cmpL a b) [(0,_),(1,_),(9,_),(10,_)] [] (fun k r=>(11,.p (.int .i64 (k:Int)))::r) (fun k r=>r) 0
 ·first|omega|decide
 ·first|omega|decide
 ·exact Ns
 ·exact O9
 ·first|(intro _ _;omega)|omega|trivial
 ·intro k i e
  have d:=y8 (gi a k) (gi b k);have c:=b1e a b k i (by omega);rw[e] at c;by_cases g:gi a k<gi b k
  ·rw[if_pos g] at d c
   rw[c]
   repeat' (first|refine a6 d ?_|refine b9 ?_|refine go1 ?_|refine a7 ?_|(apply a8;rfl)|(apply b8;rfl)|(intro _;try omega))
   all_goals first|omega|contradiction|(refine aa ?_;try rfl)
  ·rw[if_neg g] at d c
   by_cases f:gi b k<gi a k
   ·rw[if_pos f] at d c
    rw[c]
    repeat' (first|refine a6 d ?_|refine b9 ?_|refine go1 ?_|refine a7 ?_|(apply a8;rfl)|(apply b8;rfl)|(intro _;try omega))
    all_goals first|omega|contradiction|(refine aa ?_;try rfl)
   ·rw[if_neg f] at d c
    repeat' (first|refine a6 d ?_|refine b9 ?_|refine go1 ?_|refine a7 ?_|(apply a8;rfl)|(apply b5;rfl)|(intro _;try omega))
    all_goals try omega
    all_goals try contradiction
    refine Aj.normal ⟨c.symm,by first|omega|decide,?_,?_⟩
    ·exact Dh
    ·exact DT
 ·intro e
  have j:cmpL a b=0:=by
   rw[← e,cU (ab _),cU (by omega)];rfl
  rw[j]
  repeat' (first|refine Fj ?_|(apply a8;rfl)|(intro _;try omega))
  all_goals first|omega|(refine aa ?_;try rfl)
end Go.Proofs.YthlffjlbidibdaaGreatDoor
namespace Go.Vm
open Go.Am
variable {E:Env}{n bn:Nat}{L:Frame}{H:Heap}{nx:Nat}
def Lrn(ρ:Nat→Nat):Frame→Frame
 |[]=>[]
 |(i,v)::L=>(i,v.rn ρ)::Lrn ρ L
theorem a5a(ρ:Nat→Nat):∀(L:Frame) (i:Nat),Gf (Lrn ρ L) i=(Gf L i).map (·.rn ρ)
 |[],_=>rfl
 |(j,v)::L,i=>by
  simp only[Lrn,Ew];split
  ·rfl
  ·exact a5a ρ L i
theorem Ba.swap(a b:Nat)(C:bn≤a)(A:bn≤b)(g:a<nx)(f:b<nx)(h:Ba E n bn c (Lrn (swp a b) L) (Hrn (swp a b) H) nx Q):Ba E n bn c L H nx Q:=by
 intro s k o B I m F σ t K J d;have x:∀j,j<nx→swp a b j<nx∧htag (Hrn (swp a b) H) (swp a b j)=htag H j∧(fun i=>σ (swp a b i)) (swp a b j)=σ j:=fun j l=>⟨a2v g f l,qg a b H j,by simp only[PY]⟩
 have M:=c1q g f K;refine h s k o B I m F _ t M (fun i v p=>?_) ?_
 ·rw[a5a,ae] at p
  obtain⟨u,r,rfl⟩:=p;exact RP.rn x (J i u r)
 ·refine⟨d.size,d.keep,d.LK,d.LD,fun c z y=>d.J3 c z (c1m y),d.Ym,fun j l=>?_,d.low⟩
  have e:swp a b j=j:=c3f C A (by omega);have q:=qg a b H j;rw[e] at q;simp only[e,q];exact d.names j l
theorem pS{dst:Option Tmp}(ns:List Nat)(q:F8 E g ac Hc ns.length k)
 (c:Enters E.P g) (p:AY E.Γ L j=some (.clo g i cs)) (s:evs E.Γ L args.toList=some Bo) (f:OE (i++Bo++cs) (CZ.rn (rho ns nx) ac)) (m:CZ.under ns.length ac) (h:Nk ns.length Hc) (hin:HIn (rho ns nx) H Hc) (d:ns.Nodup) (e:∀b∈ns,b<nx)
 (o:∀r H' a,k r H' a→Cc E n bn ops l (IJ L dst (r.rn (rho ns nx))) (news ns.length (rho ns nx) H' (merge ns (rho ns nx) H' H)) (nx+(a-ns.length)) R) :
 Cc E n bn ops (⟨dst,.call { callee:=.value j,args:=args,argTypes:=u },ty,pos,af,none⟩::l) L H nx R:=Cc.iG c p s f m h hin d e q o
end Go.Vm
