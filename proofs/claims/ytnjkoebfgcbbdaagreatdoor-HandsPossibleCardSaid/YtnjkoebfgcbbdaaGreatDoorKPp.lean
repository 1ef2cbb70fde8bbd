/-
  Texts of a proof, merged (HanP, Wm2, Wm4, HanM, Vm45, HanQ, Wm5). Conditions: in each statement.
-/
import Derived.Test.YtnjkoebfgcbbdaaGreatDoorKPo
set_option linter.unusedSimpArgs false
set_option linter.unusedVariables false
set_option linter.unusedSectionVars false
set_option maxRecDepth 100000
set_option maxHeartbeats 8000000
abbrev eQ:=@Array.size_setIfInBounds
abbrev fm:=@Array.getElem?_setIfInBounds_ne
abbrev im:=@List.map_eq_nil_iff
namespace Go.Proofs.YtnjkoebfgcbbdaaGreatDoor
open Go Go.Am Go.Vm Go.Pie Go.Sch
attribute [local irreducible] Aa Aj Ag Ad AL Ak Bd BL Bl Ai Vm.Done BD AO Qh
attribute [local irreducible] CJ Bf Eb DW EF A8 Cj
theorem b4x(p:Fe):Inc (DC p):=Yt (lG _)
theorem Ur(p:Fe){i j:Nat}(h:i<j)(a:j<(DC p).length):gi (DC p) i<gi (DC p) j:=by
 have:=ep.1 (b4x p) i j (by omega) a h;unfold gi;grind
theorem b3i(p:Fe){i j:Nat}(b:i<(DC p).length)(a:j<(DC p).length)(h:gi (DC p) i=gi (DC p) j):i=j:=by
 rcases eT i j with h1|h1|h1
 ·have:=Ur p h1 a;omega
 ·omega
 ·have:=Ur p h1 b;omega
theorem pX(p:Fe)(t:Int):t∈DC p↔t∈UJ p p.notes.length:=by
 unfold DC;rw[Q7,fY]
theorem J8{α:Type}[Inhabited α]{l:List α}{x:α}(h:x∈l):∃i,i<l.length∧gi l i=x:=by
 obtain⟨i,a,e⟩:=bR.1 h;exact⟨i,a,by unfold gi;grind⟩
theorem Di{α:Type}[Inhabited α]{l:List α}{i:Nat}(h:i<l.length):gi l i∈l:=by
 unfold gi;grind
theorem vw{α:Type}[Inhabited α]{l:List α}(h:l.Nodup){i j:Nat}(b:i<l.length)(a:j<l.length)(e:gi l i=gi l j):i=j:=by
 unfold gi at e;rw[ai b,ai a] at e;exact(List.getElem_inj h).1 e
theorem TN(p:Fe)(t:Int):∀k,(L9 p t k).Nodup
 |0=>co
 |k+1=>by
  have c:=TN p t k;unfold L9;split
  ·refine cQ.2 ⟨c,by simp,fun a f b d e=>?_⟩
   rw[aR] at d;have:=Zk f;omega
  omega
theorem nY(p:Fe)(t:Int)(x:Int):x∈snd p t↔∃i:Nat,i<p.notes.length∧x=(i:Int)∧(gi p.notes i).s≤t∧t<(gi p.notes i).e:=by
 have h:=uH p t x p.notes.length;simp only[b0u] at h;exact h
def Nk(q:Qu)(t:Nat):oW:=gi (Bq q.p) t
def b7n(q:Qu)(s:oW)(x:Int):Bool:=decide ((gi q.p.notes x.toNat).s=s.s)
def Ny(q:Qu)(t j:Nat):Bool:=b7n q (Nk q t) (gi (Jf q (DJ q t)) j)
def fQ(q:Qu)(t j:Nat):Nat:=(gi (Jf q (DJ q t)) j).toNat
def kQ(q:Qu)(t:Nat):Nat:=(Jf q (DJ q t)).length
def sQ(q:Qu)(t i:Nat):Prop:=(i:Int)∈DJ q t
def XM(q:Qu)(t:Nat)(l:List Int):Bool:=MJ q (DJ q t) l
theorem ZT(p:Fe):(Bq p).length+1=(DC p).length:=by
 have:=a2w p;show(b0k _ _).length+1=_;rw[vX];omega
theorem a3b(q:Qu){t:Nat}(a:t<(Bq q.p).length):(Nk q t).s=gi (DC q.p) t:=by
 unfold Nk;rw[Y7 _ a]
theorem Ub(q:Qu){t:Nat}(a:t<(Bq q.p).length):DJ q t=snd q.p (gi (DC q.p) t):=by
 unfold DJ;rw[Y7 _ a]
theorem Ue(q:Qu){t:Nat}(a:t<(Bq q.p).length)(i:Nat):sQ q t i↔i<q.p.notes.length∧(gi q.p.notes i).s≤gi (DC q.p) t∧gi (DC q.p) t<(gi q.p.notes i).e:=by
 unfold sQ;rw[Ub q a,nY];grind
theorem uU(q:Qu)(N:List Int)(x:Int):x∈Jf q N↔x∈N∧Gj q x.toNat=false:=by
 unfold Jf VW;simp
theorem a0j(q:Qu){t:Nat}(a:t<(Bq q.p).length):(Jf q (DJ q t)).Nodup:=by
 rw[Ub q a];exact(TN _ _ _).filter _
theorem OL(q:Qu){t:Nat}(a:t<(Bq q.p).length){j:Nat}(c:j<kQ q t):∃i:Nat,gi (Jf q (DJ q t)) j=(i:Int)∧fQ q t j=i∧i<q.p.notes.length∧sQ q t i∧Gj q i=false:=by
 have b:=Di (l:=Jf q (DJ q t)) c;obtain⟨h,g⟩:=(uU q _ _).1 b;have d:gi (Jf q (DJ q t)) j∈snd q.p (gi (DC q.p) t):=by rw[← Ub q a];omega
 obtain⟨i,f,e,_⟩:=(nY _ _ _).1 d;refine⟨i,e,by unfold fQ;omega,f,by unfold sQ;grind,by grind⟩
theorem OC(q:Qu)(f:KE q){t:Nat}(a:t<(Bq q.p).length)(i:Nat):Bgn (Ny q) (fQ q) (kQ q) t i↔i<q.p.notes.length∧Gj q i=false∧(gi q.p.notes i).s=gi (DC q.p) t:=by
 constructor
 ·rintro⟨j,c,b,rfl⟩
  obtain⟨i,u,o,m,y,l⟩:=OL q a c;rw[o];refine⟨m,l,?_⟩;unfold Ny b7n at b;rw[u,a3b q a] at b;grind
 ·rintro⟨c,b,x⟩
  have g:=f.p.note i c;have k:sQ q t i:=(Ue q a i).2 ⟨c,by omega,by have:=g.r;omega⟩;have h:(i:Int)∈Jf q (DJ q t):=(uU q _ _).2 ⟨k,b⟩;obtain⟨j,e,d⟩:=J8 h;refine⟨j,e,?_,by unfold fQ;omega⟩;unfold Ny b7n;rw[d,a3b q a];grind
theorem jM{p:Fe}{N:List Int}{is is':Nat→Bool}(h:∀x∈N,is x.toNat=is' x.toNat)(d:Nat):∀k,k≤N.length→YS p N is d k=YS p N is' d k
 |0,_=>rfl
 |k+1,hk=>by
  rw[Gv,Gv,jM h d k (by omega),h _ (Di (by omega))]
theorem a6y{q:Qu}{N:List Int}{is is':Nat→Bool}(h:∀x∈N,is x.toNat=is' x.toNat):Iu q N is=Iu q N is':=by
 refine MR fun d _=>?_
 unfold Vb;rw[jM h d _ (ab _)]
theorem XA{p:Fe}{N l l':List Int}(h:∀x∈N,gi l x.toNat=gi l' x.toNat)(a:Int):∀k,k≤N.length→V7 p N l a k=V7 p N l' a k
 |0,_=>rfl
 |k+1,hk=>by
  unfold V7;rw[XA h a k (by omega),h _ (Di (by omega))]
theorem dP{q:Qu}{N l l':List Int}(h:∀x∈N,gi l x.toNat=gi l' x.toNat)(a:Int):YN q N l a=YN q N l' a:=by
 unfold YN;rw[a6y (is:=hasB l a) (is':=hasB l' a) fun x b=>by unfold hasB;grind]
theorem sN{q:Qu}{N l l':List Int}(h:∀x∈N,gi l x.toNat=gi l' x.toNat):MJ q N l=MJ q N l':=by
 unfold MJ;rw[dP h,dP h]
theorem Xi{N l l':List Int}(h:∀x∈N,gi l x.toNat=gi l' x.toNat):∀k,k≤N.length→nH N l k=nH N l' k
 |0,_=>rfl
 |k+1,hk=>by
  unfold nH;rw[Xi h k (by omega),h _ (Di (by omega))]
theorem uo{N l l':List Int}(b:∀x∈N,0≤gi l x.toNat∧gi l x.toNat≤2)(a:∀x∈N,0≤gi l' x.toNat∧gi l' x.toNat≤2):∀k,k≤N.length→nH N l k=nH N l' k→∀j,j<k→gi l (gi N j).toNat=gi l' (gi N j).toNat
 |0,_,_,j,hj=>by omega
 |k+1,hk,he,j,hj=>by
  have h:=VF N l k;have d:=VF N l' k;obtain⟨g,c⟩:=List.append_inj he (by omega);by_cases e:j=k
  ·subst e
   simp only[List.cons.injEq,and_true] at c;have f:=congrArg UInt8.toNat c;rw[UInt8.toNat_ofNat',UInt8.toNat_ofNat'] at f;have:=b _ (Di (l:=N) (i:=j) (by omega));have:=a _ (Di (l:=N) (i:=j) (by omega));omega
  ·exact uo b a k (by omega) g j (by omega)
theorem oD{q:Qu}{t:Nat}(c:t<(Bq q.p).length){l l':List Int}(h:∀i,sQ q t i→gi l i=gi l' i):∀x∈DJ q t,gi l x.toNat=gi l' x.toNat:=fun x b=>by
 have a:=b;rw[Ub q c,nY] at b;obtain⟨i,_,rfl,_⟩:=b;exact h i a
theorem Zh(q:Qu){i:Nat}(a:i<q.p.notes.length):gi (Ob q) i=if Gj q i=true then 2 else 0:=by
 unfold Ob Xu;rw[Dy _ a];grind
theorem a9z(q:Qu):(Ob q).length=q.p.notes.length:=Oc _ _
theorem Yl(q:Qu)(r:KE q):fV q.p.notes.length (Bq q.p).length (Ny q) (fQ q) (kQ q) (sQ q) (XM q) (Ob q):=by
 have M:=ZT q.p;refine⟨a9z q,fun t a j I b f e=>?_,fun t a j b=>?_,fun t a j b K=>?_,fun t u a d i c g=>?_,fun t a j b=>?_,fun t u c g i y x=>?_,fun t a i y=>?_,fun t a l F _ _ h=>?_⟩
 ·obtain⟨i,o,m,_⟩:=OL q a b
  obtain⟨J,k,C,_⟩:=OL q a f;refine vw (a0j q a) b f ?_;omega
 ·obtain⟨i,o,m,k,_⟩:=OL q a b
  omega
 ·obtain⟨i,o,m,k,_,B⟩:=OL q a b
  rw[m,Zh q k,B];rfl
 ·have c:=((OC q r a i).1 c).2.2
  have g:=((OC q r d i).1 g).2.2;exact b3i q.p (by omega) (by omega) (c.symm.trans g)
 ·obtain⟨i,o,m,k,C,_⟩:=OL q a b
  grind
 ·have A:=((OC q r g i).1 x).2.2
  have h4:=((Ue q (by omega) i).1 y).2.1;have:=Ur q.p c (by omega);omega
 ·obtain⟨o,m,k⟩:=(Ue q a i).1 y
  have z:=Ur q.p (show t<t+1 by omega) (by omega);by_cases c:(gi q.p.notes i).s≤gi (DC q.p) t
  ·exact .inl ((Ue q (by omega) i).2 ⟨o,c,by omega⟩)
  ·refine .inr fun u d x=>?_
   have A:=((OC q r (by omega) i).1 x).2.2;rcases aq u t with h4|h4
   ·have:=Ur q.p h4 (by omega);omega
   grind
 ·exact sN (oD a h)
theorem VD(q:Qu):∀i,i<q.p.notes.length→0≤gi (Ob q) i∧gi (Ob q) i≤2:=fun i a=>by
 rw[Zh q a];split<;>omega
theorem b8s(q:Qu):∀t,t<(Bq q.p).length→∀i,sQ q t i→i<q.p.notes.length:=fun t a i h=>((Ue q a i).1 h).1
def KF(q:Qu)(t:Nat):List (List Int):=Ye (Ny q) (fQ q) (kQ q) (XM q) (Ob q) t
def c1j(q:Qu)(t:Nat)(l:List Int):Prop:=jw (Ny q) (fQ q) (kQ q) (XM q) (Ob q) q.p.notes.length t l
theorem Qs(q:Qu)(b:KE q){t:Nat}(a:t≤(Bq q.p).length)(l:List Int):l∈KF q t↔c1j q t l:=U2 (Yl q b) t a l
theorem gq(q:Qu)(b:KE q){t:Nat}(a:t≤(Bq q.p).length):(KF q t).Nodup:=kF (Yl q b) t a
def nO(q:Qu)(t:Nat)(l:List Int):List (List Int):=xJ (Ny q) (fQ q) (kQ q) (XM q) t l
structure a5h(q:Qu)(t:Nat)(l:List Int):Prop where
 len:l.length=q.p.notes.length
 rng:∀i,i<l.length→0≤gi l i∧gi l i≤2
 zero:∀j,j<kQ q t→Ny q t j=true→gi l (fQ q t j)=0
theorem rH(q:Qu)(f:KE q){t:Nat}(b:t<(Bq q.p).length){l:List Int}(h:c1j q t l):a5h q t l:=by
 have d:=Yl q f;have a:l.length=q.p.notes.length:=jw.len h;refine⟨a,fun i g=>Y6 (VD q) h (by omega),fun j c e=>?_⟩;rw[jw.no h _ (d.rng t b j c) fun⟨t',h1,h2⟩=>by have:=d.once t' t (by omega) b _ h2 ⟨j,c,e,rfl⟩;omega];exact d.zero t b j c e
theorem jK(q:Qu)(f:KE q){i:Nat}(d:i<q.p.notes.length)(j:Gj q i=false):∃t,t<(Bq q.p).length∧Bgn (Ny q) (fQ q) (kQ q) t i:=by
 have x:=ZT q.p;have k:=f.p.note i d;have m:(gi q.p.notes i).s∈DC q.p:=(pX _ _).2 ((Zj _ _ _).2 (.inr (.inr ⟨i,d,.inl rfl⟩)));have l:(gi q.p.notes i).e∈DC q.p:=(pX _ _).2 ((Zj _ _ _).2 (.inr (.inr ⟨i,d,.inr rfl⟩)));obtain⟨a,u,o⟩:=J8 m;obtain⟨b,b1,b2⟩:=J8 l;have c:a<(Bq q.p).length:=by
  rcases aq a (Bq q.p).length with h|h
  ·exact h
  ·have:=k.r
   rcases eT a b with g|g|g
   ·omega
   ·grind
   ·have:=Ur q.p g u;omega
 exact⟨a,c,(OC q f c i).2 ⟨d,j,o.symm⟩⟩
theorem iU(q:Qu)(b:KE q)(l:List Int):l∈KF q (Bq q.p).length↔l.length=q.p.notes.length∧(∀i,i<q.p.notes.length→if Gj q i=true then gi l i=2 else gi l i=0∨gi l i=1)∧∀t,t<(Bq q.p).length→MJ q (DJ q t) l=true:=by
 rw[Qs q b (ab _)];constructor
 ·intro h
  refine⟨jw.len h,fun i a=>?_,fun t e=>jw.play h t e⟩;split
  ·rename_i c
   rw[jw.no h i a (fun⟨t,g,d⟩=>by have:=((OC q b g i).1 d).2.1;grind),Zh q a,if_pos c]
  ·rename_i c
   exact jw.yes h i a (jK q b a (by grind))
 ·rintro⟨g,d,j⟩
  refine⟨g,fun i a ⟨t,g1,g2⟩=>?_,fun i a f=>?_,fun t e=>j t e⟩
  ·have:=d i a
   rw[((OC q b g1 i).1 g2).2.1] at this;grind
  ·have:=d i a
   by_cases c:Gj q i=true
   ·rw[if_pos c] at this
    rw[this,Zh q a,if_pos c]
   ·exact absurd (jK q b a (by grind)) f
structure KJ where
 now:List UInt8
 c0:WW
 c1:WW
 b0:Bool
 b1:Bool
deriving DecidableEq
def st0:KJ:=⟨[],⟨0,0⟩,⟨0,0⟩,false,false⟩
def Hr(q:Qu)(t:Nat)(x:KJ)(l:List Int):KJ :=
 ⟨Qd (DJ q t) l,if(GL q l 0 t).1=true then(GL q l 0 t).2 else x.c0,if(GL q l 1 t).1=true then(GL q l 1 t).2 else x.c1,(GL q l 0 t).1||x.b0,(GL q l 1 t).1||x.b1⟩
def GR(r:Bool×WW)(b:Bool)(c:WW):Int:=if r.1=true then if b=true then mvC c r.2 else 0 else 0
def LV(q:Qu)(t:Nat)(x:KJ)(l:List Int):Int:=GR (GL q l 0 t) x.b0 x.c0+GR (GL q l 1 t) x.b1 x.c1
theorem vH(q:Qu){t:Nat}(f:t<(Bq q.p).length){l l':List Int}(h:∀i,i<q.p.notes.length→0≤gi l i∧gi l i≤2)(c:∀i,i<q.p.notes.length→0≤gi l' i∧gi l' i≤2)(e2:Qd (DJ q t) l=Qd (DJ q t) l'){i:Nat}(g:sQ q t i):gi l i=gi l' i:=by
 have hin:=Jo f;have d:∀x∈DJ q t,x.toNat<q.p.notes.length:=fun x a=>by
  obtain⟨j,b,e⟩:=J8 a;have:=hin j b;omega
 obtain⟨j,b,e⟩:=J8 (l:=DJ q t) g;have:=uo (fun x a=>h _ (d x a)) (fun x a=>c _ (d x a)) _ (ab _) e2 j b;grind
theorem b6p(q:Qu):Go.Sch.Stp q.p.notes.length (Bq q.p).length (sQ q) (Hr q) (LV q):=by
 refine⟨fun t c x l a _ _ h=>?_,fun t c x k l a m j g d e i f=>?_⟩
 ·have b:=oD c h
  have s:GL q l 0 t=GL q a 0 t:=XA b 0 _ (ab _);have r:GL q l 1 t=GL q a 1 t:=XA b 1 _ (ab _);have o:Qd (DJ q t) l=Qd (DJ q t) a:=Xi b _ (ab _);unfold Hr LV;grind
 ·exact vH q c g d (congrArg KJ.now e) f
def c6c(q:Qu)(t:Nat)(_:List UInt8)(l:List Int):List UInt8:=Qd (DJ q t) l
theorem b5r(q:Qu):Go.Sch.Stp q.p.notes.length (Bq q.p).length (sQ q) (c6c q) (fun _ _ _=>0):=by
 refine⟨fun t a x l c _ _ h=>⟨Xi (oD a h) _ (ab _),rfl⟩,fun t a x j l c k g f b d i e=>?_⟩;exact vH q a f b d e
end Go.Proofs.YtnjkoebfgcbbdaaGreatDoor
namespace Go.Am
open Go.ChangeMaps (setBlock)
variable {P:Program}{G:List Nat}
theorem aV{ops:Array Oper}{o:Oper}{l:List Oper}{R:Exit→Act→World→Prop}{ac:Act}{w w':World}{v':Value}(d:o.guard=none)(a:∀c,o.op≠.defer c)(b:(execOp ac.eval o).run P w=.ok (.value v') w')
 (k:wpListIn Fence.wide 0 P ops R l (ac.put o.dst v') w'):wpListIn Fence.wide 0 P ops R (o::l) ac w:=by
 unfold wpListIn;rw[Vm.Nj d,if_pos rfl];unfold Oper.wpIn;rw[Oper.semAt_eq _ _ _ a,b];refine⟨fun _ _=>trivial,?_⟩;exact k
theorem Dw.len{ι:BG}{g:Nat→Nat}:∀{es es':List MapEntry},Dw ι g es es'→es'.length=es.length
 |[],[],_=>rfl
 |_::_,_::_,⟨_,k⟩=>by simp[Dw.len k]
 |[],_::_,h=>h.elim
 |_::_,[],h=>h.elim
theorem b2p{ι a:BG}{m m':Mem}{w w':World}(g:DF P G ι m w)(h:Ext ι m w a m' w'){k:Nat}{o:Obj}(d:w.heap[k]?=some o)(i:o.isCells=false)(p:∀es c,o≠.map es c):w'.heap[k]?=some o:=by
 rw[h.frame k (al.1 d).1 ?_];exact d;intro b f l j;have e:=g.blk b f l;rw[j,d] at e;obtain⟨es,c,q⟩:=Oa e i;grind
theorem a8w{ι:BG}{m:Mem}{W a:World}{l:Nat}{o o':Obj}(f:DF P G ι m W)(q:a=W∨a=W.drew)(k:W.heap[l]?=some o)(j:o.isCells=false)(r:∀es c,o≠.map es c):DF P G ι m (setBlock a l o'):=by
 have s:a.heap=W.heap:=by rcases q with rfl|rfl<;>rfl
 have p:∀c,c≠l→(setBlock a l o').heap[c]?=W.heap[c]?:=fun c u=>by
  show(a.heap.setIfInBounds l o')[c]?=_;grind
 have i:(setBlock a l o').heap.size=W.heap.size:=by
  show(a.heap.setIfInBounds l o').size=_;grind
 refine⟨fun b d g=>⟨(f.dom b d g).1,by rw[i];exact(f.dom b d g).2⟩,fun b d g=>?_,f.inj,f.glob⟩;rw[p d.blk ?_];exact f.blk b d g;intro e;have h:=f.blk b d g;rw[e,k] at h;obtain⟨es,c,x⟩:=Oa h j;grind
theorem a8o{ι b:BG}{m m':Mem}{w W a:World}{l:Nat}(h:Ext ι m w b m' W)(d:a=W∨a=W.drew)(j:w.heap.size≤l)(o':Obj):Ext ι m w b m' (setBlock a l o'):=by
 have f:a.heap=W.heap:=by rcases d with rfl|rfl<;>rfl
 have e:(setBlock a l o').heap.size=W.heap.size:=by
  show(a.heap.setIfInBounds l o').size=_;grind
 refine⟨h.size,h.low,h.keep,h.ro,h.ro',h.le,h.back,h.dom,by rw[e];exact h.heap,fun c i g=>?_,?_,?_,?_⟩
 ·show(a.heap.setIfInBounds l o')[c]?=_
  rw[f,fm (by omega)];exact h.frame c i g
 ·rcases d with rfl|rfl<;>exact h.tape
 ·rcases d with rfl|rfl<;>exact h.os
 ·rcases d with rfl|rfl<;>exact h.output
theorem run_move{ρ:Operand→Value}{dst:Option Tmp}{x:Operand}{ty:TypeId}{pos:String}{af:Array Edge}{gd:Option (Nat×Bool)}{w:World}:(execOp ρ ⟨dst,.move x,ty,pos,af,gd⟩).run P w=.ok (.value (ρ x)) w:=by
 rfl
theorem YD{ρ:Operand→Value}{dst:Option Tmp}{x:Operand}{i:Nat}{vs:Array Value}{v:Value}{ty:TypeId}{pos:String}{af:Array Edge}{gd:Option (Nat×Bool)}{w:World}(a:ρ x=.tuple vs)(b:vs[i]?=some v):(execOp ρ ⟨dst,.extract x i,ty,pos,af,gd⟩).run P w=.ok (.value v) w:=by
 simp only[execOp,a];exact G7 (by simp[Instr.extract,b])
theorem OE{a:Act}{d b:Tmp}{v:Value}(h:d<a.tmps.size):(a.put (some d) v).eval (.tmp b)=if d=b then v else a.eval (.tmp b):=by
 show(a.tmps.setIfInBounds d v).getD b undef=_;by_cases e:d=b
 ·simp_all
 ·rw[if_neg e]
  show _=a.tmps.getD b undef;simp_all
theorem ZX{es:Array MapEntry}{V:List Nat}{e:MapEntry}:e∈(leftOf es V.toArray).toList↔e∈es.toList∧e.born∉V:=by
 unfold leftOf;simp
end Go.Am
namespace Go.Vm
open Go.Am
open Go.ChangeMaps (setBlock)
variable {E:Env}{n bn:Nat}{L:Frame}{H:Heap}{nx:Nat}{Q:BH→Frame→Heap→Nat→Prop}
theorem b7g{l:List MapEntry}{a:Nat}(h:Stamped l a){i:Nat}{e:MapEntry}(b:l[i]?=some e):e.born=i:=h.at b
theorem Dt.at{m:Mem}{F:Nat→Prop}:∀{xs:List FV} {vs:List Value} {i:Nat} {x:FV} {v:Value},Dt m F xs vs→xs[i]?=some x→vs[i]?=some v→RF m F x v
 |_,_,i,_,_,.nil,h,_=>by grind
 |_,_,0,_,_,.cons h t,h1,h2=>by grind
 |_,_,i+1,_,_,.cons h t,h1,h2=>Dt.at t (by assumption) (by grind)
theorem Dv.at{m:Mem}{F:Nat→Prop}{T:Nat→Option Tg}{σ:Nat→Value}{n:Nat}:∀{xs:List PV} {vs:List Value} {i:Nat} {x:PV} {v:Value},Dv m F T σ n xs vs→xs[i]?=some x→vs[i]?=some v→RP m F T σ n x v
 |_,_,i,_,_,.nil,h,_=>by grind
 |_,_,0,_,_,.cons h t,h1,h2=>by grind
 |_,_,i+1,_,_,.cons h t,h1,h2=>Dv.at t (by assumption) (by grind)
theorem RL.other{m:Mem}{F:Nat→Prop}{T:Nat→Option Tg}{σ:Nat→Value}{nx:Nat}{L:Frame}{t:Tr Value}(h:RL m F T σ nx L t){d:Nat}(b:Fv L d=none)(v:Value):RL m F T σ nx L (QO t d v):=fun i x a=>by
 rw[Dj];by_cases e:d=i
 ·grind
 ·rw[if_neg e];exact h i x a
theorem Aw.c0c{ι:BG}{g:Nat→Nat}{l:Nat}{v':Value}(h:Aw ι g (.iface 0 (.int .i64 l)) v'):v'=.pointer (some ⟨l,0,none⟩):=by
 generalize hv:Value.iface 0 (.int .i64 (l:Int))=v at h;cases h<;>simp at hv
 grind
theorem IL:∀(n:Nat) (V:List Nat),V.Nodup→(∀i∈V,i<n)→V.length≤n
 |0,V,_,h=>by
  match V,h with
  |[],_=>simp
  |a::V,h=>exact absurd (h a (by simp)) (bd _)
 |n+1,V,hn,h=>by
  by_cases c:n∈V
  ·have d:=IL n (V.erase n) (hn.erase n) fun i b=>by
    grind
   grind
  ·have:=IL n V hn fun i b=>by
    grind
   omega
theorem vO{ι:BG}{g:Nat→Nat}{l es:List MapEntry}(h:Dw ι g l es){j:Nat}{e:MapEntry}(b:es[j]?=some e):∃c,l[j]?=some c∧lV ι g c e:=by
 have a:=(bv.1 b).1;rw[h.len] at a;exact⟨l[j],ai a,Dw.get h (ai a) b⟩
theorem dZ{ι:BG}{g:Nat→Nat}:∀{l es:List MapEntry},Dw ι g l es→es.map (·.born)=l.map (·.born)
 |[],[],_=>rfl
 |e::l,e'::es,⟨h,k⟩=>by
  rw[bt,bt,dZ k,h.2.1]
 |[],_::_,h=>h.elim
 |_::_,[],h=>h.elim
theorem AY.mY{r1 id r2 id2 r3:Nat}{x:Operand}{k d z M de:Tmp}{T kt et aa1 a2 a3 a4 aa5:TypeId}{p1 p2 p3 p4 p5:String}{f1 f2 f3 f4 f5:Array Edge}{A:Array Oper}{tl:List Oper}{rest:Code}{b CP:Nat}{ks:List FV}{cs:List PV}{α:Type}(Lf:α→Frame)(Hf:α→Heap)(inv:List Nat→α→Prop)(s0:α)
 (ht:E.P.underlying T=some (.map kt et)) (hx:AU E.Γ L x=some (.mref b)) (hb:bn≤CP) (hbm:hget H b=some (.JZ ks cs))
 (h0:inv [] s0) (J:V8 (Ig L (some k) (.mref b)) H nx (Lf s0) (Hf s0) CP)
 (hLd:Fv L d=none) (hL:∀s,Fv (Lf s) k=some (.mref b)∧Fv (Lf s) z=none∧Fv (Lf s) M=none)
 (hH:∀V s,inv V s→hget (Hf s) b=some (.JZ ks cs)) (hl:ks.length=cs.length)
 (Y:A.toList=⟨some de,.entry (.tmp d),aa5,p5,f5,none⟩::tl) (hkd:keeps d (.seq (.region r3 A false) rest)=true) (hk0:keeps k (.seq (.region r3 A false) rest)=true)
 (hne:k≠d∧z≠d∧z≠k∧M≠d∧M≠k∧de≠d)
 (hs:∀V s i kk c,inv V s→V.Nodup→i∉V→ks[i]?=some kk→cs[i]?=some c→Ci E n bn A tl (Ig (Lf s) (some de) (.D5 [.p kk,c])) (Hf s) CP fun L' H' nx' =>
  AY E n bn rest L' H' nx' (Bl id2 (Ai (fun L' H' nx'=>∃s',inv (V++[i]) s'∧V8 L' H' nx' (Lf s') (Hf s') CP) (Bl id Q))))
 (he:∀V s,inv V s→V.Nodup→(∀i,i<cs.length→i∈V)→(∀i∈V,i<cs.length)→Q .normal (Lf s) (Hf s) CP) :
 AY E n bn (.seq (.region r1 #[⟨some k,.move x,aa1,p1,f1,none⟩,⟨some d,.range T (.tmp k),a2,p2,f2,none⟩] false)
  (.block id (.loop (.seq (.region r2 #[⟨some z,.next (.tmp d) false,a3,p3,f3,none⟩,⟨some M,.extract (.tmp z) 0,a4,p4,f4,none⟩] false) (.seq (.cond (.tmp M) .skip (.exit id)) (.block id2 (.seq (.region r3 A false) rest))))))) L H nx Q:=by
 intro hsn hok hfl B hB m F σ t h1 h2 h3 ι ac w S R hR;simp only[codeOk,Bool.and_eq_true] at hok;simp only[flat,Bool.true_and,Bool.and_true,Bool.and_eq_true] at hfl;obtain⟨⟨hok1,_⟩,⟨hok2,_⟩,_,⟨c1u,_⟩,hokr⟩:=hok;have c8r:=hfl;obtain⟨hn1,hn2,hn3,hn4,hn5,hn6⟩:=hne;have ho1:=fun o ho=>DL (be.1 hok1 o ho)
 have ho2:=fun o ho=>DL (be.1 hok2 o ho)
 have ho3:∀o∈A.toList,IJ E.G n o=true:=fun o ho=>be.1 c1u o (by simpa using ho)
 rw[Y] at ho3;have hd0:k<n:=(ho1 ⟨some k,.move x,aa1,p1,f1,none⟩ (by simp)).2 k rfl;have hdd:d<n:=(ho1 ⟨some d,.range T (.tmp k),a2,p2,f2,none⟩ (by simp)).2 d rfl;have hdn:z<n:=(ho2 ⟨some z,.next (.tmp d) false,a3,p3,f3,none⟩ (by simp)).2 z rfl;have hdk:M<n:=(ho2 ⟨some M,.extract (.tmp z) 0,a4,p4,f4,none⟩ (by simp)).2 M rfl;have hde:de<n:=(DL (ho3 _ (bO ..))).2 de rfl;have d0a:Gw E.G x=true:=(ho1 ⟨some k,.move x,aa1,p1,f1,none⟩ (by simp)).1 x (by simp[Op.operands]);simp only[keeps,Bool.and_eq_true,Y,List.all_cons] at hkd hk0;obtain⟨d5u,r,l,f,q1,q2,q3,q4,q5,q6,q7⟩:=h1.hp b _ hbm;have hxv:ev t x=.map (some r):=(Je h1 h2 hx hbm).trans q1;have hrx:=Bz h1 h2 hx;rw[hxv] at hrx;have hvx:=JX S.1 S.2 d0a;rw[hxv] at hvx;obtain⟨C,hib,hxe⟩:∃C,ι r=some C∧ac.eval x=.map (some C.blk):=by
  have hg0:m.gen r=0:=by unfold Mem.gen;rw[q4];rfl
  generalize ac.eval x=u at hvx;cases hvx with
  |map _ c C h J=>exact⟨C,h,by rw[J hg0]⟩
 have hlen:l.length=cs.length:=by have:=q5.length;rw[aM] at this;omega
 have c7s:f=cs.length:=by rw[q7.2,hlen]
 obtain⟨es,hes,d3p⟩:∃es,w.heap[C.blk]?=some (.map es f)∧Dw ι m.gen l es.toList:=by
  have g:=S.1.blk r C hib;rw[q4] at g;cases ho:w.heap[C.blk]? with
  |none=>rw[ho] at g;exact g.elim
  |some o =>
   rw[ho] at g;cases o<;>simp only[Vk] at g<;>first|exact g.elim|skip
   rename_i es' c';exact⟨es',by rw[g.1],g.2⟩
 have hsz:∀{a:Act} {s:St} {ι:BG} {w:World},Ea E.P E.G [] n s ι a w→a.tmps.size=n:=fun h=>h.2.size
 refine wpIn_seq (wpIn_region_list ?_);refine aV rfl (fun c J=>by cases J) run_move ?_;have d2a:(ac.put (some k) (ac.eval x)).tmps.size=n:=by
  show(ac.tmps.setIfInBounds k _).size=n;rw[eQ];exact hsz S
 have hrun0:(execOp (ac.put (some k) (ac.eval x)).eval ⟨some d,.range T (.tmp k),a2,p2,f2,none⟩).run E.P w=.ok (.value (.pointer (some ⟨w.heap.size,0,none⟩))) (w.alloc (.mapIter (some C.blk) f #[] f)):=by
  simp only[execOp];refine G7 ?_;rw[OE (by rw[hsz S];exact hd0),if_pos rfl,hxe];exact run_range_map w T kt et C.blk es f ht hes
 refine aV rfl (fun c J=>by cases J) hrun0 ?_;have hbel:Go.RowKit.Below w.heap.size w (w.alloc (.mapIter (some C.blk) f #[] f)):=⟨rfl,rfl,rfl,by show w.heap.size≤(w.heap.push _).size;simp,fun c J=>(by first|exact heap_alloc_old w _ J|exact heap_alloc_old w _ _ J)⟩
 have hlt:w.heap.size<(w.alloc (.mapIter (some C.blk) f #[] f)).heap.size:=by show w.heap.size<(w.heap.push _).size;simp
 have hst1:Ea E.P E.G [] n ⟨QO (QO t k (.map (some r))) d (.iface 0 (.int .i64 w.heap.size)),m⟩ ι ((ac.put (some k) (ac.eval x)).put (some d) (.pointer (some ⟨w.heap.size,0,none⟩))) (w.alloc (.mapIter (some C.blk) f #[] f)):=by
  refine⟨Oq S.1 hbel,?_⟩;have e1:SN [] ι m.gen n (Ic t (some k) (.map (some r))) (ac.put (some k) (ac.eval x)):=S.2.put (fun d' e=>by cases e;exact hd0) hvx;exact e1.put (dst:=some d) (fun d' e=>by cases e;exact hdd) (.it _)
 have c9d:RL m F (htag H) σ nx (Ig L (some k) (.mref b)) (QO (QO t k (.map (some r))) d (.iface 0 (.int .i64 w.heap.size))):=by
  refine RL.other (RL.set h2 hrx) ?_ _;rw[Ed,if_neg hn1];exact hLd
 show(Code.block _ _).wpIn _ _ _ _ _ _;refine(wpIn_block (wpIn_loop_rounds (cs.length+1) ?_));have key:∀N V s,inv V s→V.Nodup→(∀i∈V,i<cs.length)→cs.length<N+V.length→∀m1 F1 U t1 O a1 w1,Ctx E.Γ m1 F1 U (Hf s) CP→RL m1 F1 (htag (Hf s)) U CP (Lf s) t1→B.to m1 F1 U (Hf s) CP →
  Ext ι m w O m1 w1→Ea E.P E.G [] n ⟨t1,m1⟩ O a1 w1→Cm t1 d=.iface 0 (.int .i64 w.heap.size)→Cm t1 k=.map (some r)→w1.heap[w.heap.size]?=some (.mapIter (some C.blk) cs.length V.toArray cs.length) →
  (∀y,y≠k→y≠d→y≠z→y≠M→y≠de→UR y tl=true→keeps y rest=true→Cm t1 y=Cm t y) →
  Code.roundsIn Fence.wide 0 E.P (.seq (.region r2 #[⟨some z,.next (.tmp d) false,a3,p3,f3,none⟩,⟨some M,.extract (.tmp z) 0,a4,p4,f4,none⟩] false) (.seq (.cond (.tmp M) .skip (.exit id)) (.block id2 (.seq (.region r3 A false) rest)))) (Exit.inBlock id R) N a1 w1:=by
  intro N
  induction N with
  |zero =>
   intro V s _ hnd hV hlt;have:=IL _ V hnd hV;omega
  |succ N ih =>
   intro V s hi hnd hV hN m1 F1 U t1 O a1 w1 c1 c2 c3 hE hS hit hmp hob hkp;rw[roundsIn_succ];refine wpIn_seq (wpIn_region_list ?_);obtain⟨d0j,c5p,c5h⟩:=hL s;obtain⟨_,rr,l1,I,g1,g2,g3,g4,g5,g6,g7⟩:=c1.hp b _ (hH V s hi);have hrr:rr=r:=by
    have hh:=c2 k _ d0j;rw[hmp] at hh;have ht':htag (Hf s) b=some .map:=by unfold htag;rw[hH V s hi];rfl
    cases hh with
    |mref _ _ h4 =>
     have:=h4 ht';rw[g1] at this;cases this;rfl
   subst hrr;obtain⟨ib1,c9u,he1⟩:∃ib1,O rr=some ib1∧ib1.blk=C.blk:=by
    obtain⟨_,ib1,k1,k2⟩:=hE.le rr C hib;have e1:m1.gen rr=0:=by unfold Mem.gen;rw[g4];rfl
    have e2:m.gen rr=0:=by unfold Mem.gen;rw[q4];rfl
    exact⟨ib1,k1,by rw[k2 (by rw[e1,e2])]⟩
   have hlen1:l1.length=cs.length:=by have:=g5.length;rw[aM] at this;omega
   have b8y:I=cs.length:=by rw[g7.2,hlen1]
   obtain⟨K,hes1,jd⟩:∃K,w1.heap[C.blk]?=some (.map K I)∧Dw O m1.gen l1 K.toList:=by
    have g:=hS.1.blk rr ib1 c9u;rw[g4,he1] at g;cases ho:w1.heap[C.blk]? with
    |none=>rw[ho] at g;exact g.elim
    |some o =>
     rw[ho] at g;cases o<;>simp only[Vk] at g<;>first|exact g.elim|skip
     rename_i es' c';exact⟨es',by rw[g.1],g.2⟩
   have hborn:∀{j:Nat} {e:MapEntry},K.toList[j]?=some e→e.born=j:=fun{j e} he=>by
    obtain⟨ea,k1,k2⟩:=vO jd he;rw[k2.2.1];exact b7g g7 k1
   have hold:∀x∈K.toList,x.born<cs.length:=fun x hx=>by
    obtain⟨j,hj,e⟩:=bR.1 hx;have:=hborn (j:=j) (e:=x) (by rw[ai hj,e]);rw[jd.len] at hj;omega
   have hiv:a1.eval (.tmp d)=.pointer (some ⟨w.heap.size,0,none⟩):=by
    have hh:=hS.2.val d;have e:Cm (⟨t1,m1⟩:St).t d=_:=hit;rw[e] at hh;exact Aw.c0c hh
   rcases run_next_at w1 a3 w.heap.size C.blk cs.length cs.length V.toArray K I (P:=E.P) hob hes1 hold (ab _) with⟨hz,X⟩|⟨e,hel,w2,hdr,X⟩
   ·
    refine aV (v':=.tuple #[.bool false]) (w':=w1) rfl (fun c J=>by cases J) (by simp only[execOp];rw[hiv];exact G7 X) ?_;refine aV (v':=.bool false) (w':=w1) rfl (fun c J=>by cases J) (YD (vs:=#[.bool false]) (by rw[OE (by rw[hsz hS];exact hdn),if_pos rfl]) rfl) ?_;have hsz2:(a1.put (some z) (.tuple #[.bool false])).tmps.size=n:=by
     show(a1.tmps.setIfInBounds z _).size=n;rw[eQ];exact hsz hS
    show(Code.seq _ _).wpIn _ _ _ _ _ _;refine wpIn_seq (wpIn_cond_false (by rw[OE (by rw[hsz2];exact hdk),if_pos rfl]) (wpIn_exit ?_));show(if id=id then _ else _);rw[if_pos rfl];show R .normal _ _;have hall:∀i,i<cs.length→i∈V:=fun i hil=>Classical.byContradiction fun hni=>by
     have hil':i<K.toList.length:=by rw[jd.len,hlen1];exact hil
     have hm:K.toList[i]∈(leftOf K V.toArray).toList:=ZX.2 ⟨cV hil',by rw[hborn (ai hil')];exact hni⟩;have:=List.length_pos_of_mem hm;rw[Array.length_toList] at this;omega
    have e1:SN [] O m1.gen n (Ic t1 (some z) (.tuple #[.bool false])) (a1.put (some z) (.tuple #[.bool false])):=hS.2.put (fun d' e=>by cases e;exact hdn) (.tuple [.bool false] [.bool false] rfl fun i hi=>by
     have:i=0:=by simpa using hi
     subst this;exact .bool _)
    have e2:=e1.put (dst:=some M) (v:=.bool false) (v':=.bool false) (fun d' e=>by cases e;exact hdk) (.bool _);refine hR .normal _ _ _ _ _ (he V s hi hnd hall hV) ⟨m1,F1,U,_,O,c1,((c2.other c5p (.tuple #[.bool false])).other c5h (.bool false)),c3,hE,⟨hS.1,e2⟩,fun y hy=>?_⟩;simp only[keeps,Bool.and_eq_true,Y,List.all_cons] at hy;obtain⟨y1,Z,_,⟨⟨y3,y4⟩,y5⟩⟩:=hy;simp only[List.all_nil,Bool.and_true,Bool.and_eq_true,bne_iff_ne,ne_eq,Option.some.injEq] at y1 Z y3;show Cm (QO (QO t1 z _) M _) y=_;rw[Dj,if_neg Z.2.1,Dj,if_neg Z.1];exact hkp y (fun e=>y1.1 e.symm) (fun e=>y1.2.1 e.symm) (fun e=>Z.1 e.symm) (fun e=>Z.2.1 e.symm) (fun e=>y3 e.symm) y4 y5
   ·
    have hem:=ZX.1 hel;obtain⟨i,hil,hei⟩:=bR.1 hem.1;have hei':K.toList[i]?=some e:=by rw[ai hil,hei]
    have hbi:=hborn hei';obtain⟨ea,hea,hka,hba,hpl,hva⟩:=vO jd hei';have hic:i<cs.length:=by rw[jd.len,hlen1] at hil;exact hil
    have hni:i∉V:=by rw[← hbi];exact hem.2
    have hw3:(V.toArray.push e.born)=(V++[i]).toArray:=by rw[hbi];simp
    rw[hw3] at X;rw[b8y] at X;have hS3:=a8w (o':=.mapIter (some C.blk) cs.length (V++[i]).toArray cs.length) hS.1 hdr hob rfl (fun es c J=>by cases J);have hE3:=a8o hE hdr (ab _) (.mapIter (some C.blk) cs.length (V++[i]).toArray cs.length);have hh2:w2.heap=w1.heap:=by rcases hdr with rfl|rfl<;>rfl
    have hl0:w.heap.size<w1.heap.size:=(al.1 hob).1;have c5f:(setBlock w2 w.heap.size (.mapIter (some C.blk) cs.length (V++[i]).toArray cs.length)).heap[w.heap.size]?=some (.mapIter (some C.blk) cs.length (V++[i]).toArray cs.length):=by
     show(w2.heap.setIfInBounds _ _)[_]?=_;rw[hh2,Array.getElem?_setIfInBounds_self_of_lt hl0]
    have c9q:C.blk≠w.heap.size:=fun e=>by have:=(S.1.dom rr C hib).2;omega
    have hes3:(setBlock w2 w.heap.size (.mapIter (some C.blk) cs.length (V++[i]).toArray cs.length)).heap[C.blk]?=some (.map K I):=by
     show(w2.heap.setIfInBounds _ _)[_]?=_;rw[hh2,fm (fun e=>c9q e.symm)];exact hes1
    generalize setBlock w2 w.heap.size (.mapIter (some C.blk) cs.length (V++[i]).toArray cs.length)=w3 at *;refine aV (v':=.tuple #[.bool true,e.key,e.val]) (w':=w3) rfl (fun c J=>by cases J) (by simp only[execOp];rw[hiv];exact G7 X) ?_;refine aV (v':=.bool true) (w':=w3) rfl (fun c J=>by cases J) (YD (vs:=#[.bool true,e.key,e.val]) (by rw[OE (by rw[hsz hS];exact hdn),if_pos rfl]) rfl) ?_;have hsz2:(a1.put (some z) (.tuple #[.bool true,e.key,e.val])).tmps.size=n:=by
     show(a1.tmps.setIfInBounds z _).size=n;rw[eQ];exact hsz hS
    show(Code.seq _ _).wpIn _ _ _ _ _ _;refine wpIn_seq (wpIn_cond_true (by rw[OE (by rw[hsz2];exact hdk),if_pos rfl]) (wpIn_skip ?_));show(Code.block _ _).wpIn _ _ _ _ _ _;refine wpIn_block (wpIn_seq (wpIn_region_list ?_));rw[Y];have hkey:Aw O m1.gen ea.key e.key:=by rw[hka];exact Aw.plain hpl
    have e1:SN [] O m1.gen n (Ic t1 (some z) (.tuple ⟨[.bool true,ea.key,ea.val]⟩)) (a1.put (some z) (.tuple #[.bool true,e.key,e.val])):=hS.2.put (fun d' e=>by cases e;exact hdn) (.tuple _ [.bool true,e.key,e.val] rfl fun i hi=>by
     have:i=0∨i=1∨i=2:=by simp at hi;omega
     rcases this with rfl|rfl|rfl
     ·exact .bool _
     ·exact hkey
     ·exact hva)
    have e2:=e1.put (dst:=some M) (v:=.bool true) (v':=.bool true) (fun d' e=>by cases e;exact hdk) (.bool _);have hsz3:((a1.put (some z) (.tuple #[.bool true,e.key,e.val])).put (some M) (.bool true)).tmps.size=n:=e2.size;have c8s:((a1.put (some z) (.tuple #[.bool true,e.key,e.val])).put (some M) (.bool true)).eval (.tmp d)=.pointer (some ⟨w.heap.size,0,none⟩):=by
     rw[OE (by rw[hsz2];exact hdk),if_neg hn4,OE (by rw[hsz hS];exact hdn),if_neg hn2];exact hiv
    refine aV (v':=.tuple #[e.key,e.val]) (w':=w3) rfl (fun c J=>by cases J) (by
     simp only[execOp];rw[c8s];refine G7 (run_entry_at w3 w.heap.size C.blk cs.length V.toArray K I e ?_ hes3 hem.1 ?_)
     ·rw[hw3,b8y];exact c5f
     ·rw[dZ jd,g7.1];exact gw) ?_
    have e3:=e2.put (dst:=some de) (v:=.tuple ⟨[ea.key,ea.val]⟩) (v':=.tuple #[e.key,e.val]) (fun d' e=>by cases e;exact hde) (.tuple _ [e.key,e.val] rfl fun i hi=>by
     have:i=0∨i=1:=by simp at hi;omega
     rcases this with rfl|rfl
     ·exact hkey
     ·exact hva)
    have hik:i<ks.length:=by omega
    have hkk:ks[i]?=some ks[i]:=ai hik;have hcc:cs[i]?=some cs[i]:=ai hic;have hrk:RF m1 F1 ks[i] ea.key:=Dt.at g5 hkk (by rw[aw,hea];rfl);have hrc:RP m1 F1 (htag (Hf s)) U CP cs[i] ea.val:=Dv.at g6 hcc (by rw[aw,hea];rfl);have d0b:RL m1 F1 (htag (Hf s)) U CP (Ig (Lf s) (some de) (.D5 [.p ks[i],cs[i]])) (Ic (Ic (Ic t1 (some z) (.tuple ⟨[.bool true,ea.key,ea.val]⟩)) (some M) (.bool true)) (some de) (.tuple ⟨[ea.key,ea.val]⟩)) :=
     RL.set ((c2.other c5p _).other c5h _) (.D5 (.cons (.p hrk) (.cons hrc .nil)))
    refine hs V s i _ _ hi hnd hni hkk hcc hsn (fun o ho=>ho3 o (ao _ ho)) B hB m1 F1 U _ c1 d0b c3 O _ w3 ⟨hS3,e3⟩ _ fun L' H' nx' a' w' q hw=>?_
    obtain⟨m4,F4,σ4,t4,ι4,d1,d2,d3,hE4,hS4,hk4⟩:=hw.ex;refine q hsn hokr c8r B hB m4 F4 σ4 t4 d1 d2 d3 ι4 a' w' hS4 _ fun e5 L5 H5 nx5 a8r w5 q5 hw5=>?_
    obtain⟨m6,F6,σ6,t6,ι6,x1,x2,x3,hE6,hS6,hk6⟩:=hw5.ex;have c3x:=Ext.trans hS3 hE4 hE6;have hE0:=Ext.trans S.1 hE3 c3x;have c9a:=b2p hS3 c3x c5f rfl (fun es c J=>by cases J);have ht6:∀y,y≠z→y≠M→y≠de→UR y tl=true→keeps y rest=true→Cm t6 y=Cm t1 y:=fun y y1 Z y3 y4 y5=>by
     rw[hk6 y y5,hk4 y y4];simp only[Ic];rw[Dj,if_neg (fun e=>y3 e.symm),Dj,if_neg (fun e=>Z e.symm),Dj,if_neg (fun e=>y1 e.symm)]
    have hd6:Cm t6 d=.iface 0 (.int .i64 w.heap.size):=by rw[ht6 d (fun e=>hn2 e.symm) (fun e=>hn4 e.symm) (fun e=>hn6 e.symm) hkd.1.2 hkd.2];exact hit
    have hm6:Cm t6 k=.map (some rr):=by
     have:de≠k:=fun e=>by
      have:=hk0.1.1;simp[e] at this
     rw[ht6 k (fun e=>hn3 e.symm) (fun e=>hn5 e.symm) (fun e=>this e.symm) hk0.1.2 hk0.2];exact hmp
    have c6n:∀y,y≠k→y≠d→y≠z→y≠M→y≠de→UR y tl=true→keeps y rest=true→Cm t6 y=Cm t y:=fun y y1 Z y3 y4 y5 y6 y7=>(ht6 y y3 y4 y5 y6 y7).trans (hkp y y1 Z y3 y4 y5 y6 y7)
    have hout:∀y,keeps y (.seq (.region r1 #[⟨some k,.move x,aa1,p1,f1,none⟩,⟨some d,.range T (.tmp k),a2,p2,f2,none⟩] false)
     (.block id (.loop (.seq (.region r2 #[⟨some z,.next (.tmp d) false,a3,p3,f3,none⟩,⟨some M,.extract (.tmp z) 0,a4,p4,f4,none⟩] false) (.seq (.cond (.tmp M) .skip (.exit id)) (.block id2 (.seq (.region r3 A false) rest)))))))=true→Cm t6 y=Cm t y:=fun y hy=>by
     simp only[keeps,Bool.and_eq_true,Y,List.all_cons] at hy;obtain⟨y1,Z,_,⟨⟨y3,y4⟩,y5⟩⟩:=hy;simp only[List.all_nil,Bool.and_true,Bool.and_eq_true,bne_iff_ne,ne_eq,Option.some.injEq] at y1 Z y3;exact c6n y (fun e=>y1.1 e.symm) (fun e=>y1.2.1 e.symm) (fun e=>Z.1 e.symm) (fun e=>Z.2.1 e.symm) (fun e=>y3 e.symm) y4 y5
    have fin:∀e',Ai (fun L' H' nx'=>∃s',inv (V++[i]) s'∧V8 L' H' nx' (Lf s') (Hf s') CP) (Bl id Q) e' L5 H5 nx5→Exit.then (Code.roundsIn Fence.wide 0 E.P (.seq (.region r2 #[⟨some z,.next (.tmp d) false,a3,p3,f3,none⟩,⟨some M,.extract (.tmp z) 0,a4,p4,f4,none⟩] false) (.seq (.cond (.tmp M) .skip (.exit id)) (.block id2 (.seq (.region r3 A false) rest)))) (Exit.inBlock id R) N) (Exit.inBlock id R) e'.toExit a8r w5:=fun e' qq=>by
     cases e' with
     |normal =>
      obtain⟨s',i1,i2⟩:=qq;have hnd':(V++[i]).Nodup:=cQ.2 ⟨hnd,by simp,fun a ha b hb=>by
       rw[aR] at hb;subst hb;exact fun e=>hni (e▸ha)⟩
      refine ih (V++[i]) s' i1 hnd' (fun j hj=>?_) (by rw[aD];show _<N+(V.length+1);omega) m6 F6 σ6 t6 ι6 a8r w5 (i2.ctx x1) (i2.rl x2) (i2.step (by omega) x3) hE0 hS6 hd6 hm6 c9a c6n;rcases bq.1 hj with h|h
      ·exact hV j h
      ·rw[aR] at h;omega
     |ret=>exact hR .ret L5 H5 nx5 a8r w5 qq ⟨m6,F6,σ6,t6,ι6,x1,x2,x3,hE0,hS6,fun y hy=>hout y hy⟩
     |exit j =>
      show(if j=id then _ else _);simp only[Ai,Bl] at qq;split
      ·rename_i e;rw[if_pos e] at qq
       exact hR .normal L5 H5 nx5 a8r w5 qq ⟨m6,F6,σ6,t6,ι6,x1,x2,x3,hE0,hS6,fun y hy=>hout y hy⟩
      ·rename_i e;rw[if_neg e] at qq
       exact hR (.exit j) L5 H5 nx5 a8r w5 qq ⟨m6,F6,σ6,t6,ι6,x1,x2,x3,hE0,hS6,fun y hy=>hout y hy⟩
    cases e5 with
    |normal=>exact fin .normal q5
    |ret=>exact fin .ret q5
    |exit j =>
     show(if j=id2 then _ else _);simp only[Bl] at q5;split
     ·rename_i e;rw[if_pos e] at q5;exact fin .normal q5
     ·rename_i e;rw[if_neg e] at q5;exact fin (.exit j) q5
 refine key (cs.length+1) [] s0 h0 co (fun i hi=>by cases hi) (by simp) m F σ _ ι _ _ (J.ctx h1) (J.rl c9d) (J.step (by omega) h3) (WG (Ext.refl _ _ _) hbel) hst1 ?_ ?_ ?_ fun y y1 Z _ _ _ _ _=>?_
 ·rw[Dj,if_pos rfl]
 ·rw[Dj,if_neg (fun e=>hn1 e.symm),Dj,if_pos rfl]
 ·rw[heap_alloc_new,c7s]
 ·rw[Dj,if_neg (fun e=>Z e.symm),Dj,if_neg (fun e=>y1 e.symm)]
end Go.Vm
namespace Go.Vm
section
open Go.Am
variable {E:Env}{n bn:Nat}{L:Frame}{H:Heap}{nx:Nat}
def I7(E:Env)(g:FuncId)(xs:List FV)(r:PV):Prop:=Gi E g (xs.map .p) [] 0 fun r' H' nx'=>r'=r∧H'=[]∧nx'=0
theorem I7.enter{f:FuncId}{fn:Func}{c:Code}{xs:List FV}{r:PV}(g:E.P.funcs[f]?=some fn)(i:fn.body=some c)(b:Ir E.G fn c=true)(d:flat c=true)(j:xs.length≤fn.ntmps)
 (h:AY E fn.ntmps 0 c (CG 0 (xs.map .p)) [] 0 (Done E.P fn.results.toList 0 fun e H' a=>e=r∧H'=[]∧a=0)):I7 E f xs r:=Gi.enter g i b d (by grind) h
theorem Ci.a2l{ops:Array Oper}{l:List Oper}{R:Frame→Heap→Nat→Prop}{dst:Option Tmp}{ty:TypeId}{pos:String}{af:Array Edge}{c:Operand}{args:Array Operand}{i:Array TypeId}{g:FuncId}{xs:List FV}{d:PV→Heap→Nat→Prop}
 (b:Enters E.P g) (e:AU E.Γ L c=some (.clo g [] [])) (h:evF E.Γ L args.toList=some xs) (f:Gi E g (xs.map .p) [] 0 d)
 (j:∀r H' a,d r H' a→Ci E n bn ops l (Ig L dst (r.rn (rho [] nx))) (news 0 (rho [] nx) H' H) (nx+a) R):Ci E n bn ops (⟨dst,.call { callee:=.value c,args:=args,argTypes:=i },ty,pos,af,none⟩::l) L H nx R:=by
 refine Ci.ZJ (ns:=[]) (Hc:=[]) (Bh:=xs.map .p) (ac:=xs.map .p) b e (Zf h) ?_ (CV.Bg _ _) trivial trivial co (by simp) f fun r H' a q=>?_
 ·rw[CV.ni,gE,dd];exact .refl _
 ·rw[RZ];grind
theorem Ci.fn{ops:Array Oper}{l:List Oper}{R:Frame→Heap→Nat→Prop}{dst:Option Tmp}{ty:TypeId}{pos:String}{af:Array Edge}{b:Operand}{args:Array Operand}{h:Array TypeId}{g:FuncId}{xs:List FV}{r:PV}
 (d:AU E.Γ L b=some (.clo g [] [])) (f:evF E.Γ L args.toList=some xs) (e:I7 E g xs r) (a:Enters E.P g) (c:∀ρ,r.rn ρ=r) (q:Ci E n bn ops l (Ig L dst r) H nx R):Ci E n bn ops (⟨dst,.call { callee:=.value b,args:=args,argTypes:=h },ty,pos,af,none⟩::l) L H nx R :=
 Ci.a2l a d f e fun r' H' nx' ⟨h1,h2,h3⟩=>by subst h1;subst h2;subst h3;rw[c];exact q
theorem AY.GU{b:Code}{Q:BH→Frame→Heap→Nat→Prop}(N:Nat)(L0:Frame)(H0:Heap)(c:Nat→Frame→Frame)(d:Nat→Heap→Heap)(CP:Nat)(l:bn≤CP)(j:CP≤nx)(o:F5 CP (c 0 L0) L)(m:BF CP (d 0 H0) H)
 (g:∀k,k<N→AY E n bn b (c k L0) (d k H0) CP (Ai (fun f H' a=>CP≤a∧F5 CP (c (k+1) L0) f∧BF CP (d (k+1) H0) H') Q))
 (r:AY E n bn b (c N L0) (d N H0) CP (Ai (fun _ _ _=>False) Q)):AY E n bn (.loop b) L H nx Q :=
 AY.DR (fun k=>c k L0) (fun k=>d k H0) CP (fun k=>k≤N) (fun k=>N-k) 0 l (an _) ⟨j,o,m⟩ fun k p=>by
  rcases aq k N with h|h
  ·refine(g k h).mono fun e f H' a q=>?_
   cases e with
   |normal=>exact⟨k+1,h,by omega,⟨q.1,q.2.1,q.2.2⟩⟩
   |ret=>exact q
   |exit i=>exact q
  grind
end
section
open Go.Am Go.ChangeShapes Go.WideShapes Go.ChangeAt Go.WideMaps Go.WideElems
variable {P:Program}{H:Type}{enc:TypeId×Value→H}{W:World}{held:Bool}
theorem c6a{r:Go.Reach}{b0 F:Nat}{laid:List (String×DataW Unit)}{O:BP}{f:FuncId}{a:List TypeId}{args:Array Value}{ds:List (DataW H)}{ps:List MemPlace}
 (hL:laidMet P laid W) (C:DataW.TrodAll enc P W 0 (fun _=>true) held a args.toList ds ps) (Z:∀(j:Nat) t v,a[j]?=some t→args.toList[j]?=some v→Value.okWide P W r b0 t v)
 (M:P.follows .mixedOrders=true) (u:a.all (Xj P F)=true)
 (hO:Gh P (Az P F laid) O)
 (hp:∀j o xs,b1l P (j+F) a o→Ht (fun(tf:TypeId×List FV) x=>dY P tf.1 tf.2=some x) (a.zip o) xs→I7 (Ei P F laid O) f xs (.p (.bool true))) :
 Calls P f args W fun e J=>e=.returned (.bool true)∧Go.RowKit.Below W.heap.size W J:=by
 obtain⟨N,hN⟩:=b3h a _ ds ps C;obtain⟨j,hj⟩:∃j,max N F=j+F:=⟨max N F-F,by omega⟩
 obtain⟨K,m1,o,xs,U,A,T,S,q5,R⟩:=WV a _ ds (fun t ht=>a2q (by omega) (az.1 u t ht)) (hN (max N F) (by omega)) (AZ P F laid);rw[hj] at A;have SC:Ctx (Ei P F laid O).Γ m1 (fun c=>c<m1.size) (fun _=>undef) [] 0:=by
  refine⟨fun _ h=>h,fun b x m=>(by cases m),fun b b' x x' c m=>(by cases m),fun g vs e k=>?_⟩;simp only[Ei,gam] at k;split at k
  ·rename_i i
   simp only[Option.map_eq_some_iff,Prod.mk.injEq] at k;obtain⟨⟨e',l⟩,I,rfl,rfl⟩:=k;have d:g<(AZ P F laid).size:=by rw[Vq];exact i
   exact⟨by omega,by rw[R g d,IW i,I],Vd I⟩
  ·cases k
 obtain⟨ι,hs,y⟩:=jI (F:=F) hL;obtain⟨q,B,o2,X,V⟩:=Xm a _ ds ps C Z ι _ m1 K hs y U;refine(hp j o xs A T ⟨hO,M⟩ m1 _ _ K SC (Dv.lC S) q W args B V).mono fun e J ⟨v',he,r0,H',nx',m',F',σ',v,ι2,hq,_,hrv,_,hx,hs2,Qg⟩=>?_
 obtain⟨rfl,_,_⟩:=hq;have s:v=.bool true:=by cases hrv with|p h=>cases h;rfl
 subst s;have:=Qg.BQ (v:=.bool true) rfl;subst this;exact⟨he,⟨hx.os,hx.tape,hx.output,hx.heap,fun c z=>hx.frame c z fun b Y m _=>.inl (X b (B.dom b Y m).1)⟩⟩
end
section
open Go.Am
theorem Aa.b7j{E:Env}{L:Frame}{H:Heap}{nx:Nat}{Q:PV→Heap→Nat→Prop}{w:Bool}{dst:Option Tmp}{ty:TypeId}{pos:String}{af:Array Edge}{gd:Option (Nat×Bool)}{α:Type}{_:Enc α}{t:TypeId}{x a:Operand}{e:TypeId}{l:List α}{b n j:Nat}{z:Bool}{k:IntKind}{i:Nat}(c:AU E.Γ L x=some (.vec b n 0 j))(g:hget H b=some (.vec e (cells l) n z))(f:AU E.Γ L a=some (.p (.int k (i:Int))))
 (d:elemSize E.P t=some (Enc.size α)) (h:i<j) (q:Q (.E8 b n (i*Enc.size α)) H nx):Aa E w ⟨dst,.indexAddr t x a,ty,pos,af,gd⟩ L H nx Q :=
 Aa.b1a c g f d (by omega) (by omega) (by grind)
end
section
open Go.Am
def Hold(p:Prop):Prop:=p
theorem Hold.of{p:Prop}(h:Hold p):p:=h
theorem Hold.go{p:Prop}(h:p):Hold p:=h
theorem Ci.Il{E:Env}{n bn:Nat}{L:Frame}{H:Heap}{nx:Nat}{ops:Array Oper}{l:List Oper}{R:Frame→Heap→Nat→Prop}{op:Op}{ty:TypeId}{pos:String}{af:Array Edge}(d:Tmp)(h:Ci E n bn ops (⟨some d,op,ty,pos,af,none⟩::l) L H nx R):Ci E n bn ops (⟨some d,op,ty,pos,af,none⟩::l) L H nx R:=h
end
end Go.Vm
namespace Go.Proofs.YtnjkoebfgcbbdaaGreatDoor
open Go Go.Am Go.Vm Go.Pie Go.Sch
attribute [local irreducible] Aa Aj Ag Ad AL Ak Bd BL Bl Ai Vm.Done BD AO Qh AY Ci Et I7 Gi Hold
attribute [local irreducible] CJ Bf Eb DW EF A8 Cj
def Gn(O:List (List Int))(m:Nat)(j:Nat):List (List Int):=O++(O.take j).map fun x=>x.set m 1
theorem a4h(O:List (List Int))(m:Nat):Gn O m 0=O:=by simp[Gn]
theorem a8i(O:List (List Int))(m:Nat):Gn O m O.length=O++O.map fun x=>x.set m 1:=by simp[Gn]
theorem kY(O:List (List Int))(m:Nat){j:Nat}(h:j<O.length):Gn O m (j+1)=Gn O m j++[(gi O j).set m 1]:=by
 unfold Gn;rw[Eh h,bk,← cq];rfl
theorem sO(O:List (List Int))(m:Nat){j:Nat}(h:j≤O.length):(Gn O m j).length=O.length+j:=by
 unfold Gn;grind
theorem b6z(O:List (List Int))(m j:Nat){i:Nat}(h:i<O.length):gi (Gn O m j) i=gi O i:=by
 unfold Gn gi;grind
def ow(L:List (List Int)):List OwL:=L.map OwL.mk
theorem zN(L:List (List Int)):(ow L).length=L.length:=by simp[ow]
theorem WS(L R:List (List Int)):ow (L++R)=ow L++ow R:=by simp[ow]
theorem b7z(L:List (List Int)){i:Nat}(h:i<L.length):gi (ow L) i=⟨gi L i⟩:=by
 unfold ow gi;grind
theorem cells_at(l:List Int){i:Nat}(h:i<l.length):(cells l)[i]?=some (.int .i64 (gi l i)):=by
 have:∀l:List Int,cells l=l.map fun x=>FV.int .i64 x:=by
  intro l
  induction l with
  |nil=>rfl
  |cons a l b=>rw[bt,← b];rfl
 unfold gi;grind
theorem a2u(L:List (List Int))(m j:Nat):(cells (ow (Gn L m j))).take (L.length*1)=cells (ow L):=by
 have h:∀R:List OwL,cells R=R.map fun x=>FV.own 3 (cells x.l) x.l.length:=by
  intro R
  induction R with
  |nil=>rfl
  |cons a l b=>rw[bt,← b];rfl
 unfold Gn;rw[WS,h,h,bk,fb,List.take_append_of_le_length (by simp[ow]),di (by simp[ow])]
theorem a3n(q:Qu)(o:KE q){t:Nat}(b:t<(Bq q.p).length){l:List Int}(d:a5h q t l){k:Nat}(e:k<kQ q t)(r:Ny q t k=true){x:List Int}(m:x∈Gm (Ny q t) (fQ q t) l k):x.length=q.p.notes.length∧gi x (fQ q t k)=0:=by
 have c:=Yl q o;have a:=d.len;have u:=c.rng t b k e;have g:=(NT (nw:=Ny q t) (f:=fQ q t) (l:=l) k (fun j i h y=>c.inj t b j i (by omega) (by omega)) (fun j s=>by rw[a];exact c.rng t b j (by omega)) (fun j s=>d.zero j (by omega)) x).1 m;refine⟨g.1.trans a,?_⟩;rw[(g.2 _ (by omega)).2 fun⟨j,h1,_,h3⟩=>by
  have:=c.inj t b j k (by omega) e h3;omega]
 exact d.zero k e r
theorem a6u(q:Qu)(g:KE q){t:Nat}(b:t<(Bq q.p).length){l:List Int}(c:a5h q t l){x:List Int}(e:x∈Gm (Ny q t) (fQ q t) l (kQ q t)):x.length=q.p.notes.length:=by
 have d:=Yl q g;have a:=c.len;have i:=(NT (nw:=Ny q t) (f:=fQ q t) (l:=l) (kQ q t) (d.inj t b) (fun j h=>by rw[a];exact d.rng t b j h) c.zero x).1 e;omega
theorem b8a:∀L:List (List Int),JB (cells (ow L)) (cells L)
 |[]=>.refl _
 |a::L=>.cons .own (b8a L)
theorem b4z{L:Vm.Frame}{H:Vm.Heap}{nx:Nat}{Q:PV→Vm.Heap→Nat→Prop}{dst:Option Tmp}{ty:TypeId}{pos:String}{af:Array Edge}{gd:Option (Nat×Bool)}{e:Operand}{args:Array Operand}{j:Array TypeId}{a cs xs:List PV}{c:Code}
 (g:AU env.Γ L e=some (.clo 88 a cs)) (i:evs env.Γ L args.toList=some xs) (b:Tryz.f88.body=some c) (f:(a++xs++cs).length≤Tryz.f88.ntmps)
 (h:Ad env nx c (CG 0 (a++xs++cs)) H nx (AO env.P Tryz.f88.results.toList Q)):Aa env true ⟨dst,.call { callee:=.value e,args:=args,argTypes:=j },ty,pos,af,gd⟩ L H nx Q:=by
 have d:(match Tryz.f88.body with|some c=>Ir env.G Tryz.f88 c|none=>false)=true:=by kernel_rfl
 rw[b] at d;exact Aa.inline rfl g i (Af (by decide)) Tryz.func88 b d f h
theorem b5o{L:Vm.Frame}{H:Vm.Heap}{nx:Nat}{Q:PV→Vm.Heap→Nat→Prop}{dst:Option Tmp}{ty:TypeId}{pos:String}{af:Array Edge}{gd:Option (Nat×Bool)}{e:Operand}{args:Array Operand}{j:Array TypeId}{a cs xs:List PV}{c:Code}
 (g:AU env.Γ L e=some (.clo 127 a cs)) (i:evs env.Γ L args.toList=some xs) (b:Tryz.f127.body=some c) (f:(a++xs++cs).length≤Tryz.f127.ntmps)
 (h:Ad env nx c (CG 0 (a++xs++cs)) H nx (AO env.P Tryz.f127.results.toList Q)):Aa env true ⟨dst,.call { callee:=.value e,args:=args,argTypes:=j },ty,pos,af,gd⟩ L H nx Q:=by
 have d:(match Tryz.f127.body with|some c=>Ir env.G Tryz.f127 c|none=>false)=true:=by kernel_rfl
 rw[b] at d;exact Aa.inline rfl g i (Af (by decide)) Tryz.func127 b d f h
theorem VJ(q:Qu)(X:KE q)(t:Nat)(ht:t<(Bq q.p).length)(hM:kQ q t≤12)(l:List Int)(hl:a5h q t l) :
 I7 env 41 [.agg (Enc.enc q),.agg (Enc.enc (Nk q t)),.lst 3 (cells l) l.length] (.p (.lst 28 (cells (nO q t l)) (nO q t l).length)):=by
 have n1:=X.p.notes;have hll:=hl.len;have hcl:=qg l (by omega);have hN:iF q (Nk q t).notes:=Jo ht;have hNl:(Nk q t).notes.length≤1000:=aj X ht;have hm:=VQ q X (Nk q t) hN hNl;have V:=fun j o=>OL q ht (j:=j) o
 have hK:kQ q t=(Jf q (Nk q t).notes).length:=rfl;have hnw:∀j,Ny q t j=b7n q (Nk q t) (gi (Jf q (Nk q t).notes) j):=fun j=>rfl
 have hMg:Jf q (DJ q t)=Jf q (Nk q t).notes:=rfl;rw[hMg] at V;have S:=hl.zero;unfold nO xJ;rw[hK] at V hM S ⊢;have z:∀k,k≤(Jf q (Nk q t).notes).length→1≤(Gm (Ny q t) (fQ q t) l k).length∧(Gm (Ny q t) (fQ q t) l k).length≤4096:=fun k J=>by
  obtain⟨B,g2⟩:=fF (Ny q t) (fQ q t) l k;exact⟨B,am g2 (ax (by decide) (show k≤12 by omega))⟩
 have g:∀k,k<(Jf q (Nk q t).notes).length→Ny q t k=true→∀j,j<(Gm (Ny q t) (fQ q t) l k).length→(gi (Gm (Ny q t) (fQ q t) l k) j).length=q.p.notes.length∧gi (gi (Gm (Ny q t) (fQ q t) l k) j) (fQ q t k)=0:=fun k J hn j o=>a3n q X ht hl J hn (Di o)
 have c3d:∀x∈Gm (Ny q t) (fQ q t) l (Jf q (Nk q t).notes).length,x.length=q.p.notes.length:=fun x hx=>a6u q X ht hl hx
 generalize Jf q (Nk q t).notes=M at *;refine I7.enter Tryz.func41 rfl (by kernel_rfl) (by kernel_rfl) (by simp[Tryz.ntmps41]) ?_
 repeat' (first|apply AY.Bo|apply AY.to|apply AY.block|(apply Aa.fn;rfl;rfl;exact hcl;intro _;rfl)|(apply Aa.fn;rfl;rfl;exact hm;intro _;rfl)|refine go2 ?_|(apply Aa.buildSlice;rfl;rfl;rfl;decide;rfl;rfl;rfl))
 all_goals try(exfalso;omega)
 apply AY.GU (M.length) [(3,_),(4,_),(18,_),(19,_)] [(0,_),(1,_)] (fun k r=>(20,.p (.int .i64 (k:Int)))::(7,.vec 2 (Gm (Ny q t) (fQ q t) l k).length 0 (Gm (Ny q t) (fQ q t) l k).length)::r) (fun k r=>(2,.vec 28 (cells (ow (Gm (Ny q t) (fQ q t) l k))) (Gm (Ny q t) (fQ q t) l k).length false)::r) 3
 ·first|omega|decide
 ·first|omega|decide
 ·exact Qb
 ·exact Tt
 ·intro k J
  obtain⟨m,B,g2,g3,g4,g5⟩:=V k J;have hOk:=z k (by omega);have c4f:=g k J;have e1:Gm (Ny q t) (fQ q t) l (k+1)=if Ny q t k=true then Gm (Ny q t) (fQ q t) l k++(Gm (Ny q t) (fQ q t) l k).map (fun x=>x.set (fQ q t k) 1) else Gm (Ny q t) (fQ q t) l k:=rfl
  have T:=hnw k;rw[g2] at e1 c4f;rw[B] at T;rw[e1];clear g z;generalize Gm (Ny q t) (fQ q t) l k=O at *;by_cases hn:(gi q.p.notes m).s=(Nk q t).s
  ·have u:Ny q t k=true:=by rw[T];exact decide_eq_true hn
   rw[if_pos u];have g:=c4f u
   repeat' (first|apply AY.Bo|apply AY.Ce|apply Et.normal|apply AY.to|apply AY.block|apply AY.skip|(apply AY.Au;rfl)|(apply Aa.Ap (l:=q.p.notes) (i:=m);rfl;exact congrArg (fun b=>some (PV.p (.int .i64 b))) B;rfl;omega;rfl)|(apply Aa.Ap;rfl;rfl;rfl;omega;rfl)|(apply Aa.lenV;rfl;rfl;rfl)|refine go2 ?_|(apply Aa.int;rfl;rfl;rfl)|(intro _;try(exfalso;omega)))
   all_goals try(exfalso;omega)
   all_goals try contradiction
   refine AY.DR (fun s:Nat×Bool=>[(3,.ref 0 0),(4,.ref 1 0),(18,.p (.lst 3 (cells M) M.length)),(19,.p (.int .i64 (M.length:Int))),(20,.p (.int .i64 (k:Int))),(9,.p (.int .i64 (gi M k))),(34,bif s.2 then .vec 2 (O.length+s.1) 0 O.length else .p (.lst 28 (cells (ow O)) O.length)),(35,.p (.int .i64 (O.length:Int))),(36,.p (.int .i64 (s.1:Int))),(7,.vec 2 (O.length+s.1) 0 (O.length+s.1))])
    (fun s=>[(0,tY q),(1,slB (Nk q t)),(2,.vec 28 (cells (ow (Gn O m s.1))) (O.length+s.1) false)]) 3 (fun s=>s.1≤O.length) (fun s=>O.length-s.1) (0,true) (by decide) (an _) ⟨by decide,?_,?_⟩ ?_
   ·exact Du
   ·simp only[a4h]
    exact Ec
   rintro⟨j,att⟩ o;simp only at o ⊢;by_cases f:j<O.length
   ·obtain⟨x1,x2⟩:=g j f
    have hgj:gi (ow (Gn O m j)) j=⟨gi O j⟩:=by rw[b7z _ (by rw[sO O m (by omega)];omega),b6z _ _ _ f]
    have hgo:gi (ow O) j=⟨gi O j⟩:=b7z _ f;have C:=XZ (gi O j) (by omega) (by omega);have I:(cells (gi O j))[m]?=some (.int .i64 0):=by rw[cells_at _ (by omega),x2]
    have hlr:=sO O m (j:=j) (by omega);have d4b:=zN O;have e:(ow (Gn O m j)).length=O.length+j:=by rw[zN,hlr]
    cases att
    ·have Y:gi O j=(gi (ow O) j).l:=by rw[hgo]
     have e2:ow (Gn O m (j+1))=ow (Gn O m j)++[⟨(gi (ow O) j).l.set m 1⟩]:=by rw[kY O m f,WS,← Y];rfl
     rw[Y] at C I x1
     repeat' (first|(refine AY.at 10 ?_;apply AY.SV)|(refine AY.atEnd 11 ?_;refine AY.ghost (Aq.Sm 12 rfl rfl) ?_;first|apply AY.region|apply AY.E5)|(refine Aj.Il 41 ?_;refine Aj.ghost (Aq.le 40 (v0:=.p (.lst 3 (cells (gi (ow O) j).l) (gi (ow O) j).l.length)) rfl (.p .own)) ?_)|((apply Ci.sZ (i:=m);rfl;exact congrArg (fun b=>some (PV.p (.int .i64 b))) B;rfl;omega;exact I;rfl;rfl;rfl))|apply AY.Bo|apply AY.region|apply Et.normal|apply AY.to|apply AY.block|apply AY.skip|(apply AY.Au;rfl)|apply Ci.nil|apply Ci.one|apply Bl.normal|apply Aj.nil|apply Aj.one|(apply Aa.Ap (l:=ow O) (i:=j);rfl;rfl;rfl;omega;exact zN O)|(apply Aa.Dn (l:=ow (Gn O m j)) (a:=OwL.mk ((gi (ow O) j).l.set m 1));rfl;rfl;rfl;rfl;exact congrArg (fun n=>[FV.own 3 (cells ((gi (ow O) j).l.set m 1)) n]) List.length_set.symm;exact e;rfl;rfl;(intro _ h;cases h);rfl;rfl;rfl;decide;decide;omega)|(apply Aa.fv;rfl;rfl;exact C)|(apply Aa.DV (l:=(gi (ow O) j).l) (i:=m);rfl;rfl;exact congrArg (fun b=>some (PV.p (.int .i64 b))) B;rfl;omega)|(apply Aa.J9 (l:=(gi (ow O) j).l) (i:=m) (y:=(1:Int));rfl;rfl;rfl;trivial;rfl;rfl;rfl;decide;omega)|(apply Aa.assign;rfl)|(apply Aa.move;rfl)|(apply Aa.MH;rfl;rfl;omega)|(apply Aa.int;rfl;rfl;rfl)|(apply Aa.load;rfl;rfl)|(apply Aa.buildSlice;rfl;rfl;rfl;decide;rfl;rfl;rfl)|(intro _;try(exfalso;omega)))
     all_goals try(exfalso;omega)
     have e3:O.length+(j+1)=(ow (Gn O m j)).length+1:=by omega
     refine Ai.normal ⟨(j+1,false),by show j+1≤O.length;omega,by show O.length-(j+1)<O.length-j;omega,⟨by decide,?_,?_⟩⟩
     ·dsimp only
      rw[e3];exact Du
     ·dsimp only
      rw[e3,e2];exact Ec
    ·have Y:gi O j=(gi (ow (Gn O m j)) j).l:=by rw[hgj]
     have e2:ow (Gn O m (j+1))=ow (Gn O m j)++[⟨(gi (ow (Gn O m j)) j).l.set m 1⟩]:=by rw[kY O m f,WS,← Y];rfl
     rw[Y] at C I x1;have e4:cells (ow (Gn O m (j+1)))=cells (ow (Gn O m j))++[FV.own 3 (cells ((gi (ow (Gn O m j)) j).l.set m 1)) (gi (ow (Gn O m j)) j).l.length]:=by
      rw[e2,Gg];refine congrArg (fun x=>cells (ow (Gn O m j))++x) ?_;show [FV.own 3 (cells ((gi (ow (Gn O m j)) j).l.set m 1)) ((gi (ow (Gn O m j)) j).l.set m 1).length]=_;rw[cN]
     repeat' (first|(refine AY.at 10 ?_;apply AY.SV)|(refine Aj.Il 41 ?_;refine Aj.ghost (Aq.le 40 (v0:=.p (.lst 3 (cells (gi (ow (Gn O m j)) j).l) (gi (ow (Gn O m j)) j).l.length)) rfl (.p .own)) ?_)|((refine AY.atEnd 11 ?_;refine AY.ghost (Aq.Sm 12 rfl rfl) ?_;apply AY.oP))|((refine Ci.Il 51 ?_;refine Hold.of ?_))|((apply Ci.sZ (i:=m);rfl;exact congrArg (fun b=>some (PV.p (.int .i64 b))) B;rfl;omega;exact I;rfl;rfl;rfl))|apply AY.Bo|apply Et.normal|apply AY.to|apply AY.block|apply AY.skip|(apply AY.Au;rfl)|apply Ci.nil|apply Ci.one|apply Aj.nil|apply Aj.one|(apply Aa.b7j (l:=ow (Gn O m j)) (i:=j);rfl;rfl;rfl;rfl;omega)|(apply Aa.OT (l:=ow (Gn O m j)) (i:=j);rfl;rfl;omega;rfl)|(apply Aa.fv;rfl;rfl;exact C)|(apply Aa.DV (l:=(gi (ow (Gn O m j)) j).l) (i:=m);rfl;rfl;exact congrArg (fun b=>some (PV.p (.int .i64 b))) B;rfl;omega)|(apply Aa.J9 (l:=(gi (ow (Gn O m j)) j).l) (i:=m) (y:=(1:Int));rfl;rfl;rfl;trivial;rfl;rfl;rfl;decide;omega)|(apply Aa.assign;rfl)|(apply Aa.move;rfl)|(apply Aa.int;rfl;rfl;rfl)|(apply Aa.buildSlice;rfl;rfl;rfl;decide;rfl;rfl;rfl)|(intro _;try(exfalso;omega)))
     all_goals try(exfalso;omega)
     refine Hold.go ?_;refine Ci.b7a (r:=34) (i:=_) (k:=1) (xs:=[FV.own 3 (cells ((gi (ow (Gn O m j)) j).l.set m 1)) (gi (ow (Gn O m j)) j).l.length]) (j:=O.length) (N:=O.length+j) rfl rfl ?_ rfl ?_ ?_ rfl rfl (by intro _ h;cases h) rfl rfl (by decide) ?_ ?_ (by decide) ?_ ?_
     ·refine qU.all rfl rfl ?_
      rfl
     ·omega
     ·omega
     ·exact mJ (by omega) (by decide)
     ·rw[C9,e];rfl
     ·repeat' (first|apply AY.region|apply Et.normal|apply Ci.nil|apply Ci.one|refine go2 ?_|fail)
      refine Ai.normal ⟨(j+1,true),by show j+1≤O.length;omega,by show O.length-(j+1)<O.length-j;omega,⟨by decide,?_,?_⟩⟩
      ·dsimp only
       try rw[← a2u O m j]
       exact Du
      ·dsimp only
       rw[e4];exact Ec
     ·repeat' (first|apply AY.region|apply Et.normal|apply Ci.nil|apply Ci.one|refine go2 ?_|fail)
      refine Ai.normal ⟨(j+1,false),by show j+1≤O.length;omega,by show O.length-(j+1)<O.length-j;omega,⟨by decide,?_,?_⟩⟩
      ·dsimp only
       try rw[← a2u O m j]
       exact Du
      ·dsimp only
       rw[e4];exact Ec
   ·have hje:j=O.length:=by omega
    have e5:(O++O.map (fun x=>x.set m 1)).length=O.length+O.length:=by simp
    subst hje
    repeat' (first|apply AY.Bo|apply AY.region|apply Et.normal|apply Et.exit|apply AY.to|apply AY.exit|(apply AY.Au;rfl)|refine go1 ?_|(intro _;try(exfalso;omega)))
    all_goals try(exfalso;omega)
    refine Ai.normal ⟨by decide,?_,?_⟩
    ·rw[e5]
     exact Du
    ·rw[e5,← a8i]
     exact Ec
  ·have u:¬ Ny q t k=true:=by rw[T];exact fun h=>hn (of_decide_eq_true h)
   rw[if_neg u]
   repeat' (first|apply AY.Bo|apply AY.Ce|apply AY.region|apply Et.normal|apply Et.exit|apply AY.to|apply AY.block|apply AY.skip|apply AY.exit|(apply AY.Au;rfl)|(apply Aa.Ap (l:=q.p.notes) (i:=m);rfl;exact congrArg (fun b=>some (PV.p (.int .i64 b))) B;rfl;omega;rfl)|(apply Aa.Ap;rfl;rfl;rfl;omega;rfl)|refine go2 ?_|(apply Aa.int;rfl;rfl;rfl)|(intro _;try(exfalso;omega)))
   all_goals try(exfalso;omega)
   all_goals try contradiction
   refine Ai.normal ⟨by first|omega|decide,?_,?_⟩
   ·exact Du
   ·exact Ec
 ·have hOk:=z M.length (ab _)
  have c9l:∀i,i<(Gm (Ny q t) (fQ q t) l M.length).length→(gi (Gm (Ny q t) (fQ q t) l M.length) i).length=q.p.notes.length:=fun i K=>c3d _ (Di K)
  clear z g;generalize Gm (Ny q t) (fQ q t) l M.length=O at *;have hC:∀i,i<O.length→D7 env 89 ([.p (.lst 3 (cells (gi O i)) (gi O i).length)]++[.ref 0 0,.ref 1 0]) [(0,tY q),(1,slB (Nk q t))] 2 (.bool (!XM q t (gi O i))):=fun i K=>iG q X _ hN hNl (gi O i) (c9l i K)
  unfold tY slB at hC;generalize hP:XM q t=P at *
  repeat' (first|(refine AY.at 14 ?_;refine AY.ghost (Aq.c3b 2 (cells O) rfl (b8a O)) ?_;first|apply AY.Bo|apply AY.Ce)|apply AY.Bo|apply Et.normal|apply Et.exit|apply AY.to|apply AY.exit|(apply AY.Au;rfl)|(apply Aa.makeFunc;rfl;rfl)|(apply b4z;rfl;rfl;rfl;exact le_dec rfl)|(apply b5o;rfl;rfl;rfl;exact le_dec rfl)|(apply Aa.lenV;rfl;rfl;rfl)|refine VU ?_|apply Ad.Bo|(apply Aa.int;rfl;rfl;rfl)|(intro _;try(exfalso;omega)))
  all_goals try(exfalso;omega)
  apply Ad.H8 (O.length) (fun k=>∀i,i<k→P (gi O i)=true) [(0,_),(1,_),(7,_)] [(0,_),(1,_),(2,_)] (fun k r=>(8,.p (.int .i64 (k:Int)))::r) (fun k r=>r) 3
  ·first|omega|decide
  ·first|omega|decide
  ·exact Qb
  ·exact Tt
  ·first|(intro _ _;omega)|omega|trivial
  ·intro k J K
   have A:=hC k J;by_cases hp:P (gi O k)=true
   ·rw[hp] at A
    repeat' (first|(apply Aa.read [0,1] A;rfl;rfl;exact .of_eq rfl;exact CV.AA rfl;exact Dk rfl;(repeat(first|exact trivial|refine⟨⟨_,rfl,.of_eq rfl⟩,?_⟩));decide;(intro _ U;simp at U<;>omega);rfl)|(apply Aa.DV;rfl;rfl;rfl;rfl;omega)|refine go2 ?_|(apply Aa.int;rfl;rfl;rfl)|(apply Ad.Ac;rfl)|(apply Ad.cond_false;rfl)|(intro _;try(exfalso;omega)))
    all_goals try(exfalso;omega)
    all_goals try contradiction
    refine Ai.normal ⟨(all_succ K hp),by first|omega|decide,?_,?_⟩
    ·exact Du
    ·exact Ec
   ·have hp':P (gi O k)=false:=by cases h:P (gi O k)<;>simp_all
    rw[hp'] at A
    repeat' (first|(apply Aa.read [0,1] A;rfl;rfl;exact .of_eq rfl;exact CV.AA rfl;exact Dk rfl;(repeat(first|exact trivial|refine⟨⟨_,rfl,.of_eq rfl⟩,?_⟩));decide;(intro _ U;simp at U<;>omega);rfl)|(apply Aa.DV;rfl;rfl;rfl;rfl;omega)|refine go2 ?_|(apply AO.ret;rfl)|(apply Aa.int;rfl;rfl;rfl)|(apply Ad.Ah;rfl)|(apply Ad.Ac;rfl)|(apply Ad.cond_true;rfl)|(intro _;try(exfalso;omega)))
    all_goals try(exfalso;omega)
    all_goals try contradiction
    refine Ad.DR (fun s:List (List Int)×Nat×Nat=>[(0,.vec 2 O.length 0 O.length),(1,.clo 89 [] [.ref 0 0,.ref 1 0]),(5,.p (.int .i64 (s.2.1:Int))),(6,.p (.int .i64 (s.2.2:Int)))]) (fun s=>[(0,tY q),(1,slB (Nk q t)),(2,.vec 28 (cells s.1) O.length false)]) 3 (fun s=>SH P O s.1 s.2.1 s.2.2) (fun s=>O.length-s.2.2) (O,k,k+1) (by decide) (SH.start J hp' K) ⟨by decide,?_,?_⟩ ?_
    ·exact Du
    ·exact Ec
    rintro⟨F,i,j⟩ R;simp only at R ⊢;have z1:=R.len;have z2:=R.ij;have z3:=R.jn;unfold tY slB;by_cases o:j<O.length
    ·have d:=hC j o
     have I:=R.at_ o;by_cases hw:P (gi O j)=true
     ·rw[hw] at d
      rw[← I] at d
      repeat' (first|(apply Aa.read [0,1] d;rfl;rfl;exact .of_eq rfl;exact CV.AA rfl;exact Dk rfl;(repeat(first|exact trivial|refine⟨⟨_,rfl,.of_eq rfl⟩,?_⟩));decide;(intro _ U;simp at U<;>omega);rfl)|(apply Aa.J9 (y:=gi F j);rfl;rfl;rfl;trivial;(first|rfl|(refine congrArg (fun t=>[PV.p (FV.int _ t)]) ?_;first|omega|(simp only[Int.natCast_add,Int.natCast_mul,Int.natCast_ediv,Int.natCast_emod]<;>omega)));rfl;rfl;decide;(first|omega|(simp only[List.length_set]<;>omega)))|(apply Aa.lenV;rfl;rfl;rfl)|(apply Aa.DV;rfl;rfl;rfl;rfl;omega)|refine go2 ?_|(apply Aa.int;rfl;rfl;rfl)|(apply Ad.Ac;rfl)|(apply Ad.cond_true;rfl)|(intro _;try(exfalso;omega)))
      all_goals try(exfalso;omega)
      refine Ai.normal ⟨(F.set i (gi O j),i+1,j+1),R.put o hw,by simp only;omega,⟨by omega,?_,?_⟩⟩
      ·exact Du
      ·rw[← I]
       exact Ec
     ·have Z:P (gi O j)=false:=by cases h:P (gi O j)<;>simp_all
      rw[Z] at d;rw[← I] at d
      repeat' (first|(apply Aa.read [0,1] d;rfl;rfl;exact .of_eq rfl;exact CV.AA rfl;exact Dk rfl;(repeat(first|exact trivial|refine⟨⟨_,rfl,.of_eq rfl⟩,?_⟩));decide;(intro _ U;simp at U<;>omega);rfl)|(apply Aa.lenV;rfl;rfl;rfl)|(apply Aa.DV;rfl;rfl;rfl;rfl;omega)|refine go2 ?_|(apply Aa.int;rfl;rfl;rfl)|(apply Ad.Ac;rfl)|(apply Ad.cond_false;rfl)|(intro _;try(exfalso;omega)))
      all_goals try(exfalso;omega)
      refine Ai.normal ⟨(F,i,j+1),R.skip o Z,by simp only;omega,⟨by omega,?_,?_⟩⟩
      ·exact Du
      ·exact Ec
    ·obtain rfl:j=O.length:=by omega
     obtain⟨f1,f2⟩:=R.fin;rw[← f1,show(F.take i).length=i by rw[ar];omega];have hps:∀xs,((Dh (cells F) (0+i*1) xs).take (i*1))=cells (F.take i):=fun xs=>by
      rw[PD _ _ _ (show i*1≤0+i*1 by omega)];exact O5 F i
     have hpl:∀xs,i*1≤(Dh (cells F) (0+i*1) xs).length:=fun xs=>by
      rw[Qo,C9,z1];show i*1≤O.length*1;omega
     repeat' (first|(refine Aj.Il 6 ?_;refine Aj.ghost (Aq.uV 56 (i*1) rfl rfl (by omega) (hpl _)) ?_)|apply AY.ret|apply Ad.assoc|apply Ad.Bo|apply Ad.FT|apply BL.normal|(apply AO.ret;rfl)|apply Bl.exit|apply Ai.exit|apply Ad.ret|apply Aj.nil|apply Aj.one|(apply Aa.pz (sz:=1) (a:=i) (c:=O.length);rfl;rfl;omega;rfl;rfl;rfl;exact⟨_,rfl⟩;rfl;omega;exact ab _)|(apply Aa.pz (sz:=1) (a:=0) (c:=i);rfl;rfl;omega;rfl;rfl;rfl;rfl;exact⟨_,rfl⟩;omega;omega)|(apply Aa.clear;rfl;rfl;omega;omega;rfl;rfl;rfl;decide;(rw[C9,z1];show 0+i*1+(O.length-i)*1≤O.length*1;omega))|(apply Aa.assign;rfl)|(apply Aa.move;rfl)|(apply Aa.int;rfl;rfl;rfl)|(apply Aa.lenV;rfl;rfl;rfl)|(apply Ad.Ac;rfl)|(intro _;try(exfalso;omega)))
     all_goals first|(exfalso;omega)|(refine Done.rt rfl rfl ⟨?_,rfl,rfl⟩;exact congrArg (fun c=>PV.p (FV.lst 28 c i)) (hps _))
  ·intro K
   rw[filter_all K]
   repeat' (first|(refine Aj.Il 6 ?_;refine Aj.ghost (Aq.freeze 56 rfl rfl) ?_)|apply AY.ret|apply Ad.assoc|apply Ad.Bo|apply Ad.Oy|apply Ad.FT|apply BL.normal|(apply AO.ret;rfl)|apply Bl.exit|apply Ai.exit|apply Ad.ret|apply Aj.nil|apply Aj.one|(apply Aa.assign;rfl)|(apply Aa.move;rfl)|(apply Aa.int;rfl;rfl;rfl)|(apply Ad.AV;rfl)|(apply Ad.Ac;rfl)|(intro _;try(exfalso;omega)))
   all_goals first|(exfalso;omega)|(refine Done.rt rfl rfl ⟨?_,rfl,rfl⟩;try rfl)
end Go.Proofs.YtnjkoebfgcbbdaaGreatDoor
namespace Go.Vm
open Go.Am
def keyAt{α:Type}[DecidableEq α]:List α→α→Option Nat
 |[],_=>none
 |x::l,a=>if a=x then some 0 else(keyAt l a).map (·+1)
structure Ii(P:Program)(t:TypeId){α:Type}[DecidableEq α](kf:α→FV)(kv:α→Value):Prop where
 rel:∀{m:Mem} {F:Nat→Prop} {a:α} {v:Value},RF m F (kf a) v→v=kv a
 of:∀{m:Mem} {F:Nat→Prop} (a:α),RF m F (kf a) (kv a)
 plain:∀a,Am.plain (kv a)=true
 bits:∀a,((Ew P t).isSome||Instr.sameBits 10000 (kv a) (kv a))=true
 find:∀(fl:Bool) (a:α) (ks:List α) (l:List MapEntry),l.map (·.key)=ks.map kv→IY P fl t (kv a) l=some ((keyAt ks a).bind fun j=>(l[j]?).map fun e=>(j,e.val))
def Ou{α:Type}(kf:α→FV)(es:List (α×PV)):HB:=.JZ (es.map fun x=>kf x.1) (es.map (·.2))
theorem ZK{α β:Type}[DecidableEq α](a:α):∀(es:List (α×β)),(BZ es a=none→keyAt (es.map (·.1)) a=none∧∀b,CB es a b=es++[(a,b)]) ∧
 (∀c,BZ es a=some c→∃j,keyAt (es.map (·.1)) a=some j∧es[j]?=some (a,c)∧∀b,CB es a b=es.set j (a,b))
 |[]=>⟨fun _=>⟨rfl,fun _=>rfl⟩,fun c h=>by cases h⟩
 |x::es=>by
  obtain⟨e,d⟩:=ZK a es;unfold BZ CB;simp only[List.map_cons,keyAt];grind
theorem Ii.c4w{P:Program}{t:TypeId}{α:Type}[DecidableEq α]{kf:α→List FV}{kv:α→List Value}(k:∀a,FW (kf a)=some (kv a))(m:TK P t=true)(f:∀a b,Dz P (Op.equal t (.agg (kv a).toArray) (.agg (kv b).toArray))=some (decide (a=b)))
 (o:∀fl a,XW P (Instr.checkKey fl 10000 t (.agg (kv a).toArray))=true):Ii P t (fun a=>.agg (kf a)) (fun a=>.agg (kv a).toArray):=by
 have h:IsKey P t kf kv:=⟨k,m,f,o⟩
 refine⟨fun r=>h.rel r,fun a=>h.of a,fun a=>h.plain a,fun a=>by rw[h.bits,Bool.or_true],fun fl a c l p=>?_⟩;rw[Zi h];have key:∀(c:List α) (l:List MapEntry) (i:Nat),l.map (·.key)=c.map (fun a=>.agg (kv a).toArray)→Dz P (Instr.findAsking t (.agg (kv a).toArray) l i)=some ((keyAt c a).bind fun j=>(l[j]?).map fun e=>(i+j,e.val)):=by
  intro c
  induction c with
  |nil =>
   intro l i d;rw[eI,im] at d;subst d;rfl
  |cons x c g =>
   intro l i d;cases l with
   |nil=>grind
   |cons y l =>
    simp only[List.map_cons,List.cons.injEq] at d;rw[Instr.findAsking,d.1];simp only[Ar,f,Option.bind_some,keyAt];by_cases e:a=x
    ·rw[decide_eq_true e,if_pos e];rfl
    ·rw[decide_eq_false e,if_neg e]
     show Dz P (Instr.findAsking t (.agg (kv a).toArray) l (i+1))=_;rw[g l (i+1) d.2];cases keyAt c a with
     |none=>rfl
     |some j =>
      grind
 grind
theorem Ii.ofStr{P:Program}{t:TypeId}{α:Type}[DecidableEq α]{f:α→ByteArray}(m:∀a b,f a=f b→a=b)(k:P.underlying t=some .string):Ii P t (fun a=>.str (f a)) (fun a=>.string (f a)):=by
 have p:Ew P t=some .string:=by unfold Ew;rw[k]
 refine⟨fun r=>by cases r;rfl,fun a=>.str _,fun a=>rfl,fun a=>by grind,fun s a c l o=>?_⟩;unfold IY;have key:∀(c:List α) (l:List MapEntry) (i:Nat),l.map (·.key)=c.map (fun a=>.string (f a))→Instr.findNow .string (.string (f a)) l i=some ((keyAt c a).bind fun j=>(l[j]?).map fun e=>(i+j,e.val)):=by
  intro c
  induction c with
  |nil =>
   intro l i d;rw[eI,im] at d;subst d;rfl
  |cons x c h =>
   intro l i d;cases l with
   |nil=>grind
   |cons y l =>
    simp only[List.map_cons,List.cons.injEq] at d;unfold Instr.findNow;rw[d.1];simp only[Instr.sameNow,keyAt];by_cases e:a=x
    ·subst e
     rw[show(f a==f a)=true by simp[NW],if_pos rfl];rfl
    ·have g:(f a==f x)=false:=by
      rw[NW];refine decide_eq_false fun q=>e (m _ _ ?_)
      cases hfa:f a;simp_all
     rw[g,if_neg e];rw[h l (i+1) d.2];cases keyAt c a with
     |none=>rfl
     |some j =>
      grind
 grind
section
variable {P:Program}{α:Type}[DecidableEq α]{kf:α→FV}{kv:α→Value}{t:TypeId}
theorem nG(h:Ii P t kf kv){m:Mem}{F:Nat→Prop}:∀{es:List (α×PV)} {ks:List Value},Dt m F (es.map fun x=>kf x.1) ks→ks=(es.map (·.1)).map kv
 |[],_,r=>by cases r;rfl
 |x::es,_,r=>by
  cases r with
  |cons b a=>rw[h.rel b,nG h a];rfl
theorem qM(h:Ii P t kf kv){m:Mem}{F:Nat→Prop}:∀(es:List (α×PV)),Dt m F (es.map fun x=>kf x.1) ((es.map (·.1)).map kv)
 |[]=>.nil
 |x::l=>.cons (h.of x.1) (qM h l)
theorem Dv.atG{m:Mem}{F:Nat→Prop}{T:Nat→Option Tg}{σ:Nat→Value}{n:Nat}:∀{xs:List PV} {vs:List Value} {i:Nat} {x:PV} {v:Value},Dv m F T σ n xs vs→xs[i]?=some x→vs[i]?=some v→RP m F T σ n x v
 |_,_,i,_,_,.nil,h,_=>by grind
 |_,_,0,_,_,.cons h t,h1,h2=>by grind
 |_,_,i+1,_,_,.cons h t,h1,h2=>Dv.atG t (by assumption) (by grind)
theorem yX(h:Ii P t kf kv){m:Mem}{F:Nat→Prop}{T:Nat→Option Tg}{σ:Nat→Value}{n:Nat}(fl:Bool)(a:α){es:List (α×PV)}{l:List MapEntry}(i:l.map (·.key)=(es.map (·.1)).map kv)(q:Dv m F T σ n (es.map (·.2)) (l.map (·.val))) :
 (BZ es a=none→IY P fl t (kv a) l=some none∧∀b,CB es a b=es++[(a,b)]) ∧
 (∀c,BZ es a=some c→∃j v e,IY P fl t (kv a) l=some (some (j,v))∧RP m F T σ n c v∧l[j]?=some e∧e.key=kv a∧e.val=v∧∀b,CB es a b=es.set j (a,b)):=by
 obtain⟨y,r⟩:=ZK a es;have d:=h.find fl a (es.map (·.1)) l i;refine⟨fun x=>?_,fun c p=>?_⟩
 ·grind
 ·obtain⟨j,k1,u,o⟩:=r c p
  have f:l.length=es.length:=by
   have:=congrArg List.length i;grind
  have g:j<l.length:=by grind
  rw[k1] at d;simp only[Option.bind_some,List.getElem?_eq_getElem g,Option.map_some] at d;refine⟨j,l[j].val,l[j],d,?_,ai g,?_,rfl,o⟩
  ·have k:(es.map (·.2))[j]?=some c:=by grind
   have s:(l.map (·.val))[j]?=some l[j].val:=by grind
   exact Dv.atG q k s
  ·have k:(l.map (·.key))[j]?=some l[j].key:=by grind
   grind
variable {E:Env}{L:Vm.Frame}{H:Vm.Heap}{nx:Nat}{Q:PV→Vm.Heap→Nat→Prop}{w:Bool}{dst:Option Tmp}{ty:TypeId}{pos:String}{af:Array Edge}{gd:Option (Nat×Bool)}
theorem VO{Γ:Nat→Option (List Value×TypeId)}{m:Mem}{F:Nat→Prop}{σ:Nat→Value}{b:Tr Value}{a:α}{o:Operand}(h:Ii P t kf kv)(c:Ctx Γ m F σ H nx)(e:RL m F (htag H) σ nx L b)(d:AU Γ L o=some (.p (kf a))):ev b o=kv a:=by
 have:=Bz c e d;cases this with
 |p r=>exact h.rel r
theorem Aa.lookupGo{t I O:TypeId}{x k:Operand}{b:Nat}{es:List (α×PV)}{a:α}{z:Value}{c:PV}(d:Ii E.P I kf kv)(K:AU E.Γ L x=some (.mref b))(s:hget H b=some (Ou kf es))(N:AU E.Γ L k=some (.p (kf a)))
 (M:E.P.underlying t=some (.map I O)) (J:zeroOf E.P O=some z) (o:Am.plain z=true) (f:LZ E H nx es a z c) (q:Q (.D5 [c,.p (.bool (BZ es a).isSome)]) H nx):Aa E w ⟨dst,.lookup t x k true,ty,pos,af,gd⟩ L H nx Q :=
 Aa.quiet q fun m F σ X g i=>by
  obtain⟨_,r,l,A,C,r2,Z,B,S,R,Y⟩:=g.hp b _ s;have V:=nG d S;have h:(Am.plain z&&Am.plain (kv a))=true:=by rw[o,d.plain];rfl
  obtain⟨f1,f2⟩:=yX d l.isEmpty a V R;rcases f with f|⟨f,T⟩
  ·obtain⟨j,u,e,y,U,_⟩:=f2 c f
   refine⟨.tuple #[u,.bool true],fun _=>?_,?_⟩
   ·simp only[BO,FI,MK,M,J,Je g i K s,VO d g i N,C,B,h,if_true,y,Option.map_some]
   ·rw[f];exact .D5 (.cons U (.cons (.p (.bool _)) .nil))
  ·have y:=(f1 f).1
   refine⟨.tuple #[z,.bool false],fun _=>?_,?_⟩
   ·simp only[BO,FI,MK,M,J,Je g i K s,VO d g i N,C,B,h,if_true,y,Option.map_some]
   ·rw[f];exact .D5 (.cons (T m F σ g) (.cons (.p (.bool _)) .nil))
theorem KU{m:Mem}{F:Nat→Prop}{σ:Nat→Value}{p:TypeId}{b r:Nat}{es es':List (α×PV)}{l':List MapEntry}{clock':Nat}(h:Ii P p kf kv){Γ:Nat→Option (List Value×TypeId)}(s:Ctx Γ m F σ H nx)(l:hget H b=some (Ou kf es))(f:σ b=.map (some r))(o:r<m.size)(i:¬ F r)
 (k1:l'.map (·.key)=(es'.map (·.1)).map kv) (j:Dv m F (htag H) σ nx (es'.map (·.2)) (l'.map (·.val))) (g:Stamped l' clock') :
 Ctx Γ (m.put r (.map l' clock')) F σ (hput H b (Ou kf es')) nx∧Step m F σ H nx (m.put r (.map l' clock')) F σ (hput H b (Ou kf es')) nx:=by
 have c:∀a x,r≠a→(m.put r x).get a=m.get a:=fun a x d=>by rw[Mem.get_put,if_neg d]
 have:=s.change (m':=m.put r (.map l' clock')) (x':=Ou kf es') (s':=σ b) l trivial (fun _=>rfl) (ab _)
  (fun a _ d=>c a _ fun e=>d (by rw[f,e];rfl)) (fun k k1 j g=>by
   have:=g r (by rw[f];rfl);simp only[Mem.put];omega) (fun a d=>.inl d) (by
   have q:∀a,F a→F a∧(m.put r (.map l' clock')).get a=m.get a:=fun a d=>⟨d,c a _ fun e=>i (e▸d)⟩
   refine⟨r,l',clock',f,o,i,by rw[Mem.get_put,if_pos rfl],?_,?_,g⟩
   ·rw[k1]
    exact qM h es'
   ·exact j.mono q (EJ (x':=Ou kf es') l trivial fun _=>rfl) (ab _))
 rw[bP] at this;omega
theorem Aa.a2i{t C et:TypeId}{x k y:Operand}{b:Nat}{es:List (α×PV)}{a:α}{c:PV}(f:Ii E.P C kf kv)(hx:AU E.Γ L x=some (.mref b))(I:hget H b=some (Ou kf es))(hk:AU E.Γ L k=some (.p (kf a)))(hy:AU E.Γ L y=some c)
 (ht:E.P.underlying t=some (.map C et)) {H':Vm.Heap} (hH:hput H b (Ou kf (CB es a c))=H') (q:Q (.D5 []) H' nx):Aa E true ⟨dst,.mapUpdate t x k y,ty,pos,af,gd⟩ L H nx Q:=by
 subst hH;intro m F σ s z S;obtain⟨_,r,l,d,K,V,U,r4,Z,J,T⟩:=z.hp b _ I;have e1:=nG f Z;obtain⟨f1,f2⟩:=yX f false a e1 J;have A:=Bz z S hy;have o:Jb E.P t (ev s x) (ev s k) (ev s y) m=match IY E.P false C (kv a) l with
  |some (some (i,_))=>if(Ew E.P C).isSome||Instr.sameBits 10000 (((l[i]?).map (·.key)).getD (kv a)) (kv a) then some (m.put r (.map (l.modify i fun e=>{ e with key:=kv a,val:=ev s y }) d)) else none
  |some none=>some (m.put r (.map (l++[{ key:=kv a,val:=ev s y,born:=d }]) (d+1)))
  |none=>none:=by
  unfold Jb;simp only[ht,Je z S hx I,VO f z S hk,K,r4,f.plain,if_true];rfl
 cases hl:BZ es a with
 |none =>
  obtain⟨N,Y⟩:=f1 hl;rw[N] at o;obtain⟨R,O⟩:=KU f z I K V U (es':=CB es a c) (l':=l++[{ key:=kv a,val:=ev s y,born:=d }]) (clock':=d+1) (by grind) (by rw[Y c,bk,bk];exact Dv.snoc J A) T.push;exact Gy.op (v:=undef) (fun _=>by simp only[BO,FI,o,Option.map_some]) ⟨_,_,_,F,_,q,R,.D5 .nil,O,fun h=>by cases h⟩
 |some c0 =>
  obtain⟨j,u,e0,N,Y,X,M,_,f6⟩:=f2 c0 hl;rw[N] at o;simp only[X,Option.map_some,Option.getD_some,M,f.bits,if_true] at o;have B:∀(g:MapEntry→MapEntry),l.modify j g=l.set j (g e0):=fun g=>LQ X
  obtain⟨R,O⟩:=KU f z I K V U (es':=CB es a c) (l':=l.modify j fun e=>{ e with key:=kv a,val:=ev s y }) (by simp_all) (by rw[B,f6 c,cH,cH];exact J.set j A) (T.modify fun _=>rfl);exact Gy.op (v:=undef) (fun _=>by simp only[BO,FI,o,Option.map_some]) ⟨_,_,_,F,_,q,R,.D5 .nil,O,fun h=>by cases h⟩
theorem Aa.a1j{t C et:TypeId}{x k y:Operand}{b:Nat}{es:List (α×PV)}{a:α}{c:PV}(f:Ii E.P C kf kv)(hx:AU E.Γ L x=some (.mref b))(I:hget H b=some (Ou kf es))(hk:AU E.Γ L k=some (.p (kf a)))(hy:AU E.Γ L y=some c)
 (ht:E.P.underlying t=some (.map C et)) {H':Vm.Heap} (hH:hput H b (Ou kf (CB es a c))=H') (q:Q (.D5 []) H' nx):Aa E true ⟨dst,.insert t x k y,ty,pos,af,gd⟩ L H nx Q:=by
 subst hH;intro m F σ s z S;obtain⟨_,r,l,d,K,V,U,r4,Z,J,T⟩:=z.hp b _ I;have e1:=nG f Z;obtain⟨f1,f2⟩:=yX f false a e1 J;have A:=Bz z S hy;have o:Jb E.P t (ev s x) (ev s k) (ev s y) m=match IY E.P false C (kv a) l with
  |some (some (i,_))=>if(Ew E.P C).isSome||Instr.sameBits 10000 (((l[i]?).map (·.key)).getD (kv a)) (kv a) then some (m.put r (.map (l.modify i fun e=>{ e with key:=kv a,val:=ev s y }) d)) else none
  |some none=>some (m.put r (.map (l++[{ key:=kv a,val:=ev s y,born:=d }]) (d+1)))
  |none=>none:=by
  unfold Jb;simp only[ht,Je z S hx I,VO f z S hk,K,r4,f.plain,if_true];rfl
 cases hl:BZ es a with
 |none =>
  obtain⟨N,Y⟩:=f1 hl;rw[N] at o;obtain⟨R,O⟩:=KU f z I K V U (es':=CB es a c) (l':=l++[{ key:=kv a,val:=ev s y,born:=d }]) (clock':=d+1) (by grind) (by rw[Y c,bk,bk];exact Dv.snoc J A) T.push;exact Gy.op (v:=undef) (fun _=>by simp only[BO,FI,o,Option.map_some]) ⟨_,_,_,F,_,q,R,.D5 .nil,O,fun h=>by cases h⟩
 |some c0 =>
  obtain⟨j,u,e0,N,Y,X,M,_,f6⟩:=f2 c0 hl;rw[N] at o;simp only[X,Option.map_some,Option.getD_some,M,f.bits,if_true] at o;have B:∀(g:MapEntry→MapEntry),l.modify j g=l.set j (g e0):=fun g=>LQ X
  obtain⟨R,O⟩:=KU f z I K V U (es':=CB es a c) (l':=l.modify j fun e=>{ e with key:=kv a,val:=ev s y }) (by simp_all) (by rw[B,f6 c,cH,cH];exact J.set j A) (T.modify fun _=>rfl);exact Gy.op (v:=undef) (fun _=>by simp only[BO,FI,o,Option.map_some]) ⟨_,_,_,F,_,q,R,.D5 .nil,O,fun h=>by cases h⟩
theorem aZ{d:Nat}(xs ys:Array Value){g:Option Bool×Unit→Sem Bool}(e:g (none,())=pure true)(c:∀ b,g (some b,())=pure b):∀ (a:List Field) (bs:List Bool),a.length=bs.length→(∀ (i:Nat) (f:Field) (b:Bool),a[i]?=some f→bs[i]?=some b→f.name≠"_"∧∃ x y,Dz P (part f.type xs f.offset)=some x∧Dz P (part f.type ys f.offset)=some y∧Dz P (Op.equalIn d f.type x y)=some b) →
 Dz P ((forIn a ((none,()):Option Bool×Unit) fun f _=>(do
     if f.name≠"_" then
      if(!(← Op.equalIn d f.type (← part f.type xs f.offset) (← part f.type ys f.offset)))=true then pure (ForInStep.done (some false,())) else pure (ForInStep.yield (none,()))
     else pure (ForInStep.yield (none,())):Sem (ForInStep (Option Bool×Unit)))) >>= g)=some (bs.all id)
 |[],[],_,h=>by
  simp only[List.forIn_nil,Ar,BX,Option.bind_some,e];rfl
 |f::a,b::bs,hl,h=>by
  obtain⟨k,x,y,o,m,l⟩:=h 0 f b rfl rfl;have j:=aZ (d:=d) xs ys e c a bs (by grind) fun i f b p q=>h (i+1) f b (by grind) (by grind)
  rw[em];simp only[Ar,ne_eq,k,not_false_eq_true,if_true,o,m,Option.bind_some,l];cases b with
  |false=>simp[BX,c]
  |true =>
   simp only[Bool.not_true,Bool.false_eq_true,if_false,BX,Option.bind_some,List.all_cons,id_eq,Bool.true_and];rw[Ar] at j;omega
 |[],_::_,hl,_=>by grind
 |_::_,[],hl,_=>by grind
theorem iH{d:Nat}{t:TypeId}{a:Array Field}{xs ys:Array Value}{bs:List Bool}(c:P.underlying t=some (.struct a))(e:P.stoodInHeld t=false)(g:a.toList.length=bs.length)
 (h:∀ (i:Nat) (f:Field) (b:Bool),a.toList[i]?=some f→bs[i]?=some b→f.name≠"_"∧∃ x y,Dz P (part f.type xs f.offset)=some x∧Dz P (part f.type ys f.offset)=some y∧Dz P (Op.equalIn d f.type x y)=some b) :
 Dz P (Op.equalIn (d+1) t (.agg xs) (.agg ys))=some (bs.all id):=by
 rw[Op.equalIn];simp only[Ar,AX,c,Option.bind_some,program,Dz,e,Bool.false_eq_true,if_false];rw[← eJ,← Ar];exact aZ (d:=d) xs ys rfl (fun b=>rfl) a.toList bs g h
theorem dO{d:Nat}{t e:TypeId}{xs ys:Array Value}{n:Nat}{x0 b c a:Value}{b0 b1:Bool}(j:P.underlying t=some (.array 2 e))(k:(P.info? e).map (·.size)=some n)(i:Dz P (part e xs 0)=some x0)(h:Dz P (part e ys 0)=some b)(g:Dz P (part e xs n)=some c)(f:Dz P (part e ys n)=some a)
 (m:Dz P (Op.equalIn d e x0 b)=some b0) (l:Dz P (Op.equalIn d e c a)=some b1):Dz P (Op.equalIn (d+1) t (.agg xs) (.agg ys))=some (b0&&b1):=by
 rw[Op.equalIn];simp only[Ar,AX,j,Option.bind_some,Gf,k];rw[Std.Legacy.Range.forIn_eq_forIn_range'];show((Dz P (forIn [0,1] _ _)).bind _)=_;rw[em];simp only[Ar,Nat.zero_mul,i,h,m,Option.bind_some];cases b0 with
 |false=>rfl
 |true =>
  simp only[Bool.not_true,Bool.false_eq_true,if_false,BX,Option.bind_some,List.forIn_cons,List.forIn_nil,Ar,Nat.one_mul,g,f,l];cases b1<;>rfl
theorem Fh{t:TypeId}{cs:Array Value}{o n:Nat}(b:Gz P t=some true)(a:(P.info? t).map (·.size)=some n):Dz P (part t cs o)=some (.agg (cs.extract o (o+n))):=by
 simp only[part,Ar,RD,b,Option.bind_some,if_true,Gf,a,BX]
theorem dN{fl:Bool}{n:Nat}{t:TypeId}{b:Array Field}{xs:Array Value}(e:P.underlying t=some (.struct b))(h:∀f∈b.toList,∃x,Dz P (part f.type xs f.offset)=some x∧Dz P (Instr.checkKey fl n f.type x)=some ()):Dz P (Instr.checkKey fl (n+1) t (.agg xs))=some ():=by
 rw[Instr.checkKey];simp only[Ar,AX,e,Option.bind_some];rw[← eJ];generalize b.toList=l at h;have a:∀l:List Field,(∀f∈l,∃x,Dz P (part f.type xs f.offset)=some x∧Dz P (Instr.checkKey fl n f.type x)=some ())→Dz P (forIn l PUnit.unit fun f _=>(do
  if f.name≠"_" then do
   let x ← part f.type xs f.offset
   Instr.checkKey fl n f.type x
   pure (ForInStep.yield PUnit.unit)
  else pure (ForInStep.yield PUnit.unit):Sem (ForInStep PUnit)))=some PUnit.unit:=by
  intro l
  induction l with
  |nil=>intro _;rfl
  |cons f l c =>
   intro h;obtain⟨x,j,i⟩:=h f (by simp);have c:=c fun f g=>h f (ao _ g)
   rw [em,Ar];by_cases d:f.name≠"_"
   ·rw[if_pos d]
    simp only[Ar,j,Option.bind_some,i,BX];omega
   ·rw[if_neg d]
    assumption
 rw[a l h];rfl
theorem X4{fl:Bool}{n:Nat}{t e:TypeId}{xs:Array Value}{k:Nat}{x0 a:Value}(d:P.underlying t=some (.array 2 e))(f:(P.info? e).map (·.size)=some k)(c:Dz P (part e xs 0)=some x0)(b:Dz P (part e xs k)=some a)
 (h:Dz P (Instr.checkKey fl n e x0)=some ()) (g:Dz P (Instr.checkKey fl n e a)=some ()):Dz P (Instr.checkKey fl (n+1) t (.agg xs))=some ():=by
 rw[Instr.checkKey];simp only[Ar,AX,d,Option.bind_some];rw[Std.Legacy.Range.forIn_eq_forIn_range'];show((Dz P (forIn [0,1] _ _)).bind _)=_;simp only[List.forIn_cons,List.forIn_nil,Ar,BX,Nat.zero_mul,Nat.one_mul,Gf,f,c,b,h,g,Option.bind_some]
theorem Qq{fl:Bool}{n:Nat}{t:TypeId}{d:TypeDesc}{x:Value}(a:P.underlying t=some d)(b:a9g d=true):Dz P (Instr.checkKey fl (n+1) t x)=some ():=by
 rw[Instr.checkKey];simp only[Ar,AX,a,Option.bind_some];cases d<;>first|rfl|cases b
theorem Aq.jD(d:Nat){b:Nat}{e:TypeId}{ds:List PV}(cs:List FV)(I:Fv L d=some (.ref b 0))(k:hget H b=some (.box e ds))(j:ds=cs.map .p):Aq E L H nx ((d,.p (.Fb cs))::L) (hdel H b) nx:=fun B m F σ t l u K=>by
 subst j;obtain⟨M,x⟩:=o9 l k;refine⟨_,σ,M,fun i v f=>?_,K.trans x⟩;rw[Ed] at f;by_cases o:d=i
 ·rw[if_pos o] at f;cases f
  have:=u d _ I;subst o;cases this with
  |ref J s h =>
   obtain⟨S,r,C⟩:=h (by simp[htag,k,HB.tag]);obtain⟨_,c,N,q,R,O,A,z,y⟩:=l.hp b _ k;rw[q] at r;cases r;rw[C];have a:=Dt.X7 z;refine .p (.Fb (g:=0) (.inr (by rw[q];rfl)) A rfl ?_ (a.mono fun c s=>⟨.inl s,rfl⟩) y);rw[cw,a.length];simp[takeN]
 ·rw[if_neg o] at f
  exact(u i v f).step x l
theorem Aa.a2c{x:Operand}{cs:List FV}(b:AU E.Γ L x=some (.p (.Fb cs)))(q:Q (.p (.Fb cs)) H nx):Aa E w ⟨dst,.nilCheck x,ty,pos,af,gd⟩ L H nx Q :=
 Aa.quiet q fun m F σ g f e=>by
  obtain⟨a,d,c⟩:=ZE f e b;exact⟨_,fun _=>by simp only[BO,FI,d],.p c⟩
theorem Aa.a9w{t d e:TypeId}{x y:Operand}{cs:List FV}(g:AU E.Γ L x=some (.p (.Fb cs)))(f:AU E.Γ L y=some (.p (.val (.pointer none))))(h:E.P.underlying t=some (.pointer e))(q:Q (.p (.bool false)) H nx) :
 Aa E w ⟨dst,.binOp .eql t x y d,ty,pos,af,gd⟩ L H nx Q:=Aa.quiet q fun m F σ k c b=>by
 obtain⟨a,j,_⟩:=ZE c b g;have i:=Zb c b f;exact⟨.bool false,fun _=>by simp[BO,FI,j,i,P8,h,JI],.p (.bool _)⟩
theorem Aa.b0y{t c e:TypeId}{x y:Operand}(f:AU E.Γ L x=some (.p (.val (.pointer none))))(d:AU E.Γ L y=some (.p (.val (.pointer none))))(g:E.P.underlying t=some (.pointer e))(q:Q (.p (.bool true)) H nx) :
 Aa E w ⟨dst,.binOp .eql t x y c,ty,pos,af,gd⟩ L H nx Q:=Aa.quiet q fun m F σ j b a=>by
 have i:=Zb b a f;have h:=Zb b a d;exact⟨.bool true,fun _=>by simp[BO,FI,i,h,P8,g,JI],.p (.bool _)⟩
end
end Go.Vm
namespace Go.Proofs.YtnjkoebfgcbbdaaGreatDoor
open Go Go.Am Go.Vm Go.Pie Go.Sch
attribute [local irreducible] Aa Aj Ag Ad AL Ak Bd BL Bl Ai Vm.Done BD AO Qh
attribute [local irreducible] CJ Bf Eb DW EF A8 Cj
instance:Enc KJ:={ default:=st0,enc:=fun x=>[.str (bs x.now),.int .i64 x.c0.d,.int .i64 x.c0.k,.int .i64 x.c1.d,.int .i64 x.c1.k,.bool x.b0,.bool x.b1],size:=7,len:=fun _=>rfl }
def xq(x:KJ):List Value:=[.string (bs x.now),.int .i64 x.c0.d,.int .i64 x.c0.k,.int .i64 x.c1.d,.int .i64 x.c1.k,.bool x.b0,.bool x.b1]
theorem b0p(d:Nat)(a b:WW):Dz Tryz.prog (Op.equalIn (d+2) 120 (.agg #[.int .i64 a.d,.int .i64 a.k]) (.agg #[.int .i64 b.d,.int .i64 b.k]))=some (decide (a=b)):=by
 obtain⟨e,f⟩:∃e,Tryz.prog.underlying 120=some (.struct e):=⟨_,rfl⟩
 refine Px f (by simp) ?_;have c:some (TypeDesc.struct e)=Tryz.prog.underlying 120:=f.symm;cases c;show some (decide (a.d=b.d)&&(decide (a.k=b.k)&&true))=_;obtain⟨j,i⟩:=a;obtain⟨b1,b2⟩:=b;by_cases h:j=b1<;>by_cases g:i=b2<;>simp[h,g]
theorem a0s(fl:Bool)(n:Nat)(a:WW):Dz Tryz.prog (Instr.checkKey fl (n+2) 120 (.agg #[.int .i64 a.d,.int .i64 a.k]))=some ():=by
 rfl
theorem c0p(a b:KJ):Dz Tryz.prog (Op.equal 124 (.agg (xq a).toArray) (.agg (xq b).toArray))=some (decide (a=b)):=by
 obtain⟨h,j⟩:∃h,Tryz.prog.underlying 124=some (.struct h):=⟨_,rfl⟩
 have x:Dz Tryz.prog (Op.equalIn 9999 9 (.string (bs a.now)) (.string (bs b.now)))=some (decide (a.now=b.now)):=RG (d:=9998) (td:=.string) rfl rfl;have u:Dz Tryz.prog (Op.equalIn 9999 121 (.agg #[.int .i64 a.c0.d,.int .i64 a.c0.k,.int .i64 a.c1.d,.int .i64 a.c1.k]) (.agg #[.int .i64 b.c0.d,.int .i64 b.c0.k,.int .i64 b.c1.d,.int .i64 b.c1.k]))=some (decide (a.c0=b.c0)&&decide (a.c1=b.c1)) :=
  dO (d:=9998) (e:=120) (n:=2) rfl rfl (Fh rfl rfl) (Fh rfl rfl) (Fh rfl rfl) (Fh rfl rfl) (b0p 9996 a.c0 b.c0) (b0p 9996 a.c1 b.c1)
 have s:Dz Tryz.prog (Op.equalIn 9999 122 (.agg #[.bool a.b0,.bool a.b1]) (.agg #[.bool b.b0,.bool b.b1]))=some ((a.b0==b.b0)&&(a.b1==b.b1)) :=
  dO (d:=9998) (e:=4) (n:=1) rfl rfl (Gt rfl rfl) (Gt rfl rfl) (Gt rfl rfl) (Gt rfl rfl) (RG (d:=9997) (td:=.bool) rfl rfl) (RG (d:=9997) (td:=.bool) rfl rfl)
 have:=iH (P:=Tryz.prog) (d:=9999) (t:=124) (xs:=(xq a).toArray) (ys:=(xq b).toArray) (bs:=[decide (a.now=b.now),decide (a.c0=b.c0)&&decide (a.c1=b.c1),(a.b0==b.b0)&&(a.b1==b.b1)]) j (by kernel_rfl) (by
  have c:some (TypeDesc.struct h)=Tryz.prog.underlying 124:=j.symm;cases c;rfl) (by
  have c:some (TypeDesc.struct h)=Tryz.prog.underlying 124:=j.symm;cases c;intro i f A l g
  match i with
  |0 =>
   cases l;cases g;exact⟨by decide,_,_,Gt (v:=.string (bs a.now)) rfl rfl,Gt (v:=.string (bs b.now)) rfl rfl,x⟩
  |1 =>
   cases l;cases g;exact⟨by decide,_,_,Fh rfl rfl,Fh rfl rfl,u⟩
  |2 =>
   cases l;cases g;exact⟨by decide,_,_,Fh rfl rfl,Fh rfl rfl,s⟩
  |i+3=>cases g)
 refine ez this (congrArg some ?_);obtain⟨J,I,F,C,B⟩:=a;obtain⟨b1,b2,b3,z,y⟩:=b;simp only[List.all_cons,List.all_nil,id_eq,Bool.and_true,KJ.mk.injEq];rw[eh];simp only[Bool.and_eq_true,decide_eq_true_eq,beq_iff_eq];constructor
 ·rintro⟨r,⟨q,p⟩,o,m⟩;exact⟨r,q,p,o,m⟩
 ·rintro⟨r,q,p,o,m⟩;exact⟨r,⟨q,p⟩,o,m⟩
theorem b5x(fl:Bool)(a:KJ):XW Tryz.prog (Instr.checkKey fl 10000 124 (.agg (xq a).toArray))=true:=by
 obtain⟨c,g⟩:∃c,Tryz.prog.underlying 124=some (.struct c):=⟨_,rfl⟩
 have:Dz Tryz.prog (Instr.checkKey fl 10000 124 (.agg (xq a).toArray))=some ():=by
  refine dN (n:=9999) g fun f hf=>?_
  have b:some (TypeDesc.struct c)=Tryz.prog.underlying 124:=g.symm;cases b;rcases bo.1 hf with rfl|hf
  ·exact⟨_,Gt (v:=.string (bs a.now)) rfl rfl,Qq (n:=9998) (d:=.string) rfl rfl⟩
  rcases bo.1 hf with rfl|hf
  ·refine⟨_,Fh rfl rfl,?_⟩
   exact X4 (n:=9998) (e:=120) (k:=2) rfl rfl (Fh rfl rfl) (Fh rfl rfl) (a0s fl 9996 a.c0) (a0s fl 9996 a.c1)
  rcases bo.1 hf with rfl|hf
  ·refine⟨_,Fh rfl rfl,?_⟩
   exact X4 (n:=9998) (e:=4) (k:=1) rfl rfl (Gt (v:=.bool a.b0) rfl rfl) (Gt (v:=.bool a.b1) rfl rfl) (Qq (n:=9997) (d:=.bool) rfl rfl) (Qq (n:=9997) (d:=.bool) rfl rfl)
  ·cases hf
 unfold XW;rw[this]
theorem mV:Ii Tryz.prog 124 (fun x:KJ=>.agg (Enc.enc x)) (fun x=>.agg (xq x).toArray):=Ii.c4w (fun _=>rfl) (by rfl) c0p b5x
theorem b1v(a b:List UInt8)(h:bs a=bs b):a=b:=by
 have:=congrArg (fun x:ByteArray=>x.data.toList) h;assumption
theorem Zd:Ii Tryz.prog 9 (fun x:List UInt8=>.str (bs x)) (fun x=>.string (bs x)):=Ii.ofStr b1v rfl
theorem Yc(a:Int):Ak env 126 [.int .i64 a] (.p (.bool false)):=by
 refine Ak.enter (Af (by decide)) Tryz.func126 rfl (by kernel_rfl) (by simp) ?_
 repeat' (first|refine go1 ?_|fail)
 all_goals first|(omega)|(refine Done.rt rfl rfl ⟨?_,rfl,rfl⟩)
 simp
theorem qW(a b:Int):Ak env 87 [.int .i64 a,.int .i64 b] (.p (.int .i64 (if a<b then -1 else if b<a then 1 else 0))):=by
 have f:=Yc a;have e:=Yc b;by_cases d:a<b;all_goals by_cases c:b<a
 all_goals first|rw[if_pos d]|rw[if_neg d]
 all_goals try first|rw[if_pos c]|rw[if_neg c]
 all_goals
  refine Ak.enter (Af (by decide)) Tryz.func87 rfl (by kernel_rfl) (by simp[Tryz.ntmps87]) ?_
 all_goals
  repeat' (first|(apply Aa.fn;rfl;rfl;exact f;intro _;rfl)|(apply Aa.fn;rfl;rfl;exact e;intro _;rfl)|refine go2 ?_|(apply Aa.int;rfl;rfl;rfl)|(apply Ad.Ah;rfl)|(apply Ad.Ac;rfl)|(intro _;try(exfalso;omega)))
 all_goals first|(exfalso;omega)|contradiction|(refine Done.rt rfl rfl ⟨?_,rfl,rfl⟩;try rfl)
theorem a3z(a b:List Int):∀k,k<a.length→k<b.length→cmpL (a.drop k) (b.drop k)=if gi a k<gi b k then -1 else if gi b k<gi a k then 1 else cmpL (a.drop (k+1)) (b.drop (k+1)):=fun k d c=>by
 rw[bN d,bN c];have f:gi a k=a[k]:=by unfold gi;grind
 have e:gi b k=b[k]:=by unfold gi;grind
 rw[f,e];rfl
theorem TI(a b:List Int)(h:a.length=b.length)(l:a.length<1000000):Ak env 40 [.lst 3 (cells a) a.length,.lst 3 (cells b) b.length] (.p (.int .i64 (cmpL a b))):=by
 refine Ak.enter (Af (by decide)) Tryz.func40 rfl (by kernel_rfl) (by simp[Tryz.ntmps40]) ?_
 repeat' (first|refine go2 ?_|fail)
 all_goals try(exfalso;omega)
 apply Ad.H8 (a.length) (fun k=>cmpL (a.drop k) (b.drop k)=cmpL a b) [(0,_),(1,_),(9,_),(10,_)] [] (fun k r=>(11,.p (.int .i64 (k:Int)))::r) (fun k r=>r) 0
 ·first|omega|decide
 ·first|omega|decide
 ·exact Qb
 ·exact Tt
 ·first|(intro _ _;omega)|omega|trivial
 ·intro k i e
  have d:=qW (gi a k) (gi b k);have c:=a3z a b k i (by omega);rw[e] at c;by_cases g:gi a k<gi b k
  ·rw[if_pos g] at d c
   rw[c]
   repeat' (first|(apply Aa.fn;rfl;rfl;exact d;intro _;rfl)|(apply Aa.Ap;rfl;rfl;rfl;omega;rfl)|refine go2 ?_|(apply Aa.int;rfl;rfl;rfl)|(apply Ad.Ac;rfl)|(apply Ad.cond_true;rfl)|(intro _;try(exfalso;omega)))
   all_goals first|(exfalso;omega)|contradiction|(refine Done.rt rfl rfl ⟨?_,rfl,rfl⟩;try rfl)
  ·rw[if_neg g] at d c
   by_cases f:gi b k<gi a k
   ·rw[if_pos f] at d c
    rw[c]
    repeat' (first|(apply Aa.fn;rfl;rfl;exact d;intro _;rfl)|(apply Aa.Ap;rfl;rfl;rfl;omega;rfl)|refine go2 ?_|(apply Aa.int;rfl;rfl;rfl)|(apply Ad.Ac;rfl)|(apply Ad.cond_true;rfl)|(intro _;try(exfalso;omega)))
    all_goals first|(exfalso;omega)|contradiction|(refine Done.rt rfl rfl ⟨?_,rfl,rfl⟩;try rfl)
   ·rw[if_neg f] at d c
    repeat' (first|(apply Aa.fn;rfl;rfl;exact d;intro _;rfl)|(apply Aa.Ap;rfl;rfl;rfl;omega;rfl)|refine go2 ?_|(apply Aa.int;rfl;rfl;rfl)|(apply Ad.Ac;rfl)|(apply Ad.cond_false;rfl)|(intro _;try(exfalso;omega)))
    all_goals try(exfalso;omega)
    all_goals try contradiction
    refine Ai.normal ⟨c.symm,by first|omega|decide,?_,?_⟩
    ·exact Du
    ·exact Ec
 ·intro e
  have j:cmpL a b=0:=by
   rw[← e,dm (ab _),dm (by omega)];rfl
  rw[j]
  repeat' (first|refine go1 ?_|(apply Ad.Ac;rfl)|(intro _;try(exfalso;omega)))
  all_goals first|(exfalso;omega)|(refine Done.rt rfl rfl ⟨?_,rfl,rfl⟩;try rfl)
end Go.Proofs.YtnjkoebfgcbbdaaGreatDoor
namespace Go.Vm
open Go.Am
variable {E:Env}{n bn:Nat}{L:Frame}{H:Heap}{nx:Nat}
def Lrn(ρ:Nat→Nat):Frame→Frame
 |[]=>[]
 |(i,v)::L=>(i,v.rn ρ)::Lrn ρ L
theorem a1h(ρ:Nat→Nat):∀(L:Frame) (i:Nat),Fv (Lrn ρ L) i=(Fv L i).map (·.rn ρ)
 |[],_=>rfl
 |(j,v)::L,i=>by
  simp only[Lrn,Ed];split
  ·rfl
  ·exact a1h ρ L i
theorem AY.swap{c:Code}{Q:BH→Frame→Heap→Nat→Prop}(a b:Nat)(C:bn≤a)(A:bn≤b)(g:a<nx)(f:b<nx)(h:AY E n bn c (Lrn (swp a b) L) (Hrn (swp a b) H) nx Q):AY E n bn c L H nx Q:=by
 intro s k o B I m F σ t K J d;have x:∀j,j<nx→swp a b j<nx∧htag (Hrn (swp a b) H) (swp a b j)=htag H j∧(fun i=>σ (swp a b i)) (swp a b j)=σ j:=fun j l=>⟨yB g f l,nT a b H j,by simp only[PG]⟩
 have M:=b4d g f K;refine h s k o B I m F _ t M (fun i v p=>?_) ?_
 ·rw[a1h,ae] at p
  obtain⟨u,r,rfl⟩:=p;exact RP.rn x (J i u r)
 ·refine⟨d.size,d.keep,d.KP,d.KO,fun c z y=>d.JF c z (b4n y),d.Xd,fun j l=>?_,d.low⟩
  have e:swp a b j=j:=b4t C A (by omega);have q:=nT a b H j;rw[e] at q;simp only[e,q];exact d.names j l
theorem Ci.c4k{ops:Array Oper}{l:List Oper}{R:Frame→Heap→Nat→Prop}{dst:Option Tmp}{ty:TypeId}{pos:String}{af:Array Edge}{i:Operand}{args:Array Operand}{u:Array TypeId}{g:FuncId}{h cs Bh ac:List PV}{Hc:Heap}{j:PV→Heap→Nat→Prop}(ns:List Nat)(q:Gi E g ac Hc ns.length j)
 (c:Enters E.P g) (p:AU E.Γ L i=some (.clo g h cs)) (s:evs E.Γ L args.toList=some Bh) (f:PE (h++Bh++cs) (CV.rn (rho ns nx) ac)) (m:CV.under ns.length ac) (k:LK ns.length Hc) (hin:HIn (rho ns nx) H Hc) (d:ns.Nodup) (e:∀b∈ns,b<nx)
 (o:∀r H' a,j r H' a→Ci E n bn ops l (Ig L dst (r.rn (rho ns nx))) (news ns.length (rho ns nx) H' (merge ns (rho ns nx) H' H)) (nx+(a-ns.length)) R) :
 Ci E n bn ops (⟨dst,.call { callee:=.value i,args:=args,argTypes:=u },ty,pos,af,none⟩::l) L H nx R:=Ci.ZJ c p s f m k hin d e q o
end Go.Vm
